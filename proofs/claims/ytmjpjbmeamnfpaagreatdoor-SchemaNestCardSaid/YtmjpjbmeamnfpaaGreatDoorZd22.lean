/-
  Parts Shelb Is Xn Il, put together and made short by wip/py/merge.py (mini.py).
-/
import Derived.Shelf.Strings.Builder1
import Derived.Shelf.Strings.Builder2
import Derived.Shelf.Strings.Trim
import Derived.Shelf.Small.Utf8
import Derived.Shelf.Small.Bits
import Derived.Shelf.Small.Strs
import Derived.Shelf.Strings.BuilderF
import Derived.Shelf.Strings.BuilderK
import Derived.Shelf.Strings.BuilderRune
import Derived.Shelf.Utf8.AppendRune
import Derived.Shelf.Utf8.AppendRunePlain
import Derived.Shelf.Strings.Builder2Cap
import Derived.Shelf.Strconv.Atoi
import Derived.Shelf.Strconv.Itoa0
import Derived.Shelf.Strconv.Itoa1
import Derived.Shelf.LaysM
import Derived.Shelf.Strconv.Itoa2
import Derived.Shelf.Strconv.Itoa3
import Derived.Shelf.Strconv.Itoa4
import Derived.Shelf.Strconv.AtoiErrFast
import Derived.Shelf.Strconv.ParseIntEmpty
import Derived.Shelf.Strconv.AtoiFail
import Derived.Shelf.Strconv.Clone
import Derived.Shelf.Strconv.SyntaxError
import Derived.Shelf.LaysC
import Derived.Shelf.Strconv.ToError
import Derived.Shelf.Strconv.Lower
import Derived.Shelf.Strconv.ParseUint10
import Derived.Shelf.Strconv.ParseUint10Empty
import Derived.Shelf.Strconv.ParseUint10Any
import Derived.Shelf.Strconv.ParseInt10
import Derived.Shelf.Strconv.AtoiLong
import Derived.Shelf.Strconv.AtoiInnerAll
import Derived.Shelf.Strconv.RangeError
import Derived.Shelf.Strconv.ToErrorRange
import Derived.Shelf.Strconv.AtoiAll
import Derived.Shelf.Strconv.ErrVarAll
import Derived.Shelf.Strconv.ParseUintEmpty
import Derived.Shelf.Strconv.ParseUint10b64
import Derived.Shelf.Strconv.ParseUint10b32
import Derived.Shelf.Strconv.ParseUint10b16
import Derived.Shelf.Strconv.ParseUint10b8
import Derived.Shelf.Strconv.ParseUint10At
import Derived.Ground.MpProg
import Derived.Shelf.Pu.ParseUintPublic10
import Derived.Shelf.Strings.Search1
import Derived.Shelf.Sort.Plain
import Derived.Shelf.GgClosure.StringsIndexFunc
import Derived.Shelf.GgClosure.StringsTrimFunc
import Derived.Shelf.GgClosure.StringsRunes
import Derived.Shelf.Strings.Prefix
import Derived.Shelf.Strings.Fields
import Derived.Shelf.Unicode.Latin
import Derived.Shelf.Unicode.Decode
import Derived.Shelf.Strings.Runes
import Derived.Shelf.Strings.IndexAny
import Derived.Shelf.Strings.AsciiSet
import Derived.Shelf.Strings.IndexAnyAll
import Derived.Shelf.Bits.Mul64
import Derived.Shelf.Strings.Repeat
import Derived.Shelf.Unicode.DecodeSlow
import Derived.Shelf.Unicode.DecodeAny
import Derived.Shelf.Unicode.Is16White
import Derived.Shelf.Unicode.IsSpaceAny
import Derived.Shelf.Unicode.DecodeLast
import Derived.Shelf.Unicode.Is16WhiteD
import Derived.Shelf.Unicode.IsSpaceAnyD
import Derived.Shelf.Strings.FieldsAny
import Derived.Shelf.Strings.FieldsFuncAny
import Derived.Shelf.Unicode.Is16Any
import Derived.Shelf.Unicode.Is32Any
import Derived.Shelf.Unicode.ExclAny
import Derived.Shelf.Strings.BuilderCap
import Derived.Shelf.Slices.In.SortNone
import Derived.Shelf.Unicode.ValidAny
import Derived.Test.YtmjpjbmeamnfpaaGreatDoorProg
import Derived.Test.YtmjpjbmeamnfpaaGreatDoorZd20
import Derived.Test.YtmjpjbmeamnfpaaGreatDoorZd8
import Derived.Sort.OwnSorted
import Derived.Test.YtmjpjbmeamnfpaaGreatDoorZd21
import Derived.Test.YtmjpjbmeamnfpaaGreatDoorZd0
set_option linter.unusedVariables false
set_option linter.unusedSimpArgs false
namespace Go.Proofs
open Go.Shelf
def Tryz.uN:Go.Shelf.Ren:=⟨λ |190=>100|125=>141|258=>140|128=>189|129=>190|302=>180|303=>181|304=>182|305=>183|306=>184|307=>185|308=>186|309=>187|310=>188|333=>228|329=>229|330=>230|334=>231|335=>232|336=>233|344=>260|n=>n,λ |31=>32|9=>9|3=>3|46=>192|0=>0|51=>93|53=>230|4=>4|183=>223|182=>222|131=>207|5=>5|218=>265|222=>269|228=>293|229=>215|n=>n,λ |n=>n⟩
theorem Tryz.fV:Go.Proofs.Lays.n190 Tryz.prog Tryz.uN:= {
 mixed:=by kernel_rfl
 f125:=Tryz.func141.trans (congrArg some (by kernel_rfl))
 f128:=Tryz.func189.trans (congrArg some (by kernel_rfl))
 f129:=Tryz.func190.trans (congrArg some (by kernel_rfl))
 f190:=Tryz.func100.trans (congrArg some (by kernel_rfl))
 f258:=Tryz.func140.trans (congrArg some (by kernel_rfl))
 f302:=Tryz.func180.trans (congrArg some (by kernel_rfl))
 f303:=Tryz.func181.trans (congrArg some (by kernel_rfl))
 f304:=Tryz.func182.trans (congrArg some (by kernel_rfl))
 f305:=Tryz.func183.trans (congrArg some (by kernel_rfl))
 f306:=Tryz.func184.trans (congrArg some (by kernel_rfl))
 f307:=Tryz.func185.trans (congrArg some (by kernel_rfl))
 f308:=Tryz.func186.trans (congrArg some (by kernel_rfl))
 f309:=Tryz.func187.trans (congrArg some (by kernel_rfl))
 f310:=Tryz.func188.trans (congrArg some (by kernel_rfl))
 f329:=Tryz.func229.trans (congrArg some (by kernel_rfl))
 f330:=Tryz.func230.trans (congrArg some (by kernel_rfl))
 f333:=Tryz.func228.trans (congrArg some (by kernel_rfl))
 f334:=Tryz.func231.trans (congrArg some (by kernel_rfl))
 f335:=Tryz.func232.trans (congrArg some (by kernel_rfl))
 f336:=Tryz.func233.trans (congrArg some (by kernel_rfl))
 f344:=Tryz.func260.trans (congrArg some (by kernel_rfl))
 t0:=Tryz.underlying0
 a0:=Tryz.isAgg0
 z0:=Tryz.sizeOf0
 v0:=Tryz.zeroValue0
 t3:=Tryz.underlying3
 a3:=Tryz.isAgg3
 z3:=Tryz.sizeOf3
 v3:=Tryz.zeroValue3
 t4:=Tryz.underlying4
 a4:=Tryz.isAgg4
 z4:=Tryz.sizeOf4
 v4:=Tryz.zeroValue4
 t5:=Tryz.underlying5
 a5:=Tryz.isAgg5
 z5:=Tryz.sizeOf5
 v5:=Tryz.zeroValue5
 t9:=Tryz.underlying9
 a9:=Tryz.isAgg9
 z9:=Tryz.sizeOf9
 v9:=Tryz.zeroValue9
 t31:=Tryz.underlying32
 a31:=Tryz.isAgg32
 z31:=Tryz.sizeOf32
 v31:=Tryz.zeroValue32
 t46:=Tryz.underlying192
 a46:=Tryz.isAgg192
 z46:=Tryz.sizeOf192
 v46:=Tryz.zeroValue192
 t51:=Tryz.underlying93
 a51:=Tryz.isAgg93
 z51:=Tryz.sizeOf93
 v51:=Tryz.zeroValue93
 t53:=Tryz.underlying230
 a53:=Tryz.isAgg230
 z53:=Tryz.sizeOf230
 v53:=Tryz.zeroValue230
 t131:=Tryz.underlying207
 a131:=Tryz.isAgg207
 z131:=Tryz.sizeOf207
 v131:=Tryz.zeroValue207
 t182:=Tryz.underlying222
 a182:=Tryz.isAgg222
 z182:=Tryz.sizeOf222
 v182:=Tryz.zeroValue222
 t183:=Tryz.underlying223
 a183:=Tryz.isAgg223
 z183:=Tryz.sizeOf223
 v183:=Tryz.zeroValue223
 t218:=Tryz.underlying265
 a218:=Tryz.isAgg265
 z218:=Tryz.sizeOf265
 v218:=Tryz.zeroValue265
 t222:=Tryz.underlying269
 a222:=Tryz.isAgg269
 z222:=Tryz.sizeOf269
 v222:=Tryz.zeroValue269
 t228:=Tryz.underlying293
 a228:=Tryz.isAgg293
 z228:=Tryz.sizeOf293
 v228:=Tryz.zeroValue293
 t229:=Tryz.underlying215
 a229:=Tryz.isAgg215
 z229:=Tryz.sizeOf215
 v229:=Tryz.zeroValue215}
open Go.Sort Go.RowKit in
theorem Tryz.slices_Sort_string (D4 off cap:Nat)(ss:List (List UInt8))(w:World)(hH:Holds encStr w D4 off ss.toArray)(hblk:D4<w.heap.size)(hsz:ss.length<4611686018427387904):
 Calls Tryz.prog 100 #[.slice (some ⟨D4,off,none⟩) ss.length cap] w λ e w'=>
  e= .returned (.tuple #[])/\ ∃n os,w'=grow (putRow encStr (Sort.ahead w n) D4 off (ss.mergeSort λ x y=>decide (x<=y)).toArray) os:=Any.slices_Sort_string Tryz.fV D4 off cap ss w hH hblk hsz
open Go.RowKit Go.Sort in
theorem Tryz.slices_Sort_string_none (p:Option Addr)(cap:Nat)(w:World):
 Calls Tryz.prog 100 #[.slice p 0 cap] w λ e w'=>e= .returned (.tuple #[])/\w'=w:=Any.slices_Sort_string_none Tryz.fV p cap w
def Tryz.uO:Go.Shelf.Ren:=⟨λ |196=>257|259=>285|n=>n,λ |9=>9|4=>4|3=>3|5=>5|12=>12|119=>203|0=>0|46=>192|139=>233|138=>232|53=>230|n=>n,λ |3=>1|4=>2|n=>n⟩
theorem Tryz.uP:Go.Proofs.Lays.n196 Tryz.prog Tryz.uO:= {
 mixed:=by kernel_rfl
 f196:=Tryz.func257.trans (congrArg some (by kernel_rfl))
 f259:=Tryz.func285.trans (congrArg some (by kernel_rfl))
 t0:=Tryz.underlying0
 a0:=Tryz.isAgg0
 z0:=Tryz.sizeOf0
 v0:=Tryz.zeroValue0
 t3:=Tryz.underlying3
 a3:=Tryz.isAgg3
 z3:=Tryz.sizeOf3
 v3:=Tryz.zeroValue3
 t4:=Tryz.underlying4
 a4:=Tryz.isAgg4
 z4:=Tryz.sizeOf4
 v4:=Tryz.zeroValue4
 t5:=Tryz.underlying5
 a5:=Tryz.isAgg5
 z5:=Tryz.sizeOf5
 v5:=Tryz.zeroValue5
 t9:=Tryz.underlying9
 a9:=Tryz.isAgg9
 z9:=Tryz.sizeOf9
 v9:=Tryz.zeroValue9
 t12:=Tryz.underlying12
 a12:=Tryz.isAgg12
 z12:=Tryz.sizeOf12
 v12:=Tryz.zeroValue12
 t46:=Tryz.underlying192
 a46:=Tryz.isAgg192
 z46:=Tryz.sizeOf192
 v46:=Tryz.zeroValue192
 t53:=Tryz.underlying230
 a53:=Tryz.isAgg230
 z53:=Tryz.sizeOf230
 v53:=Tryz.zeroValue230
 t119:=Tryz.underlying203
 a119:=Tryz.isAgg203
 z119:=Tryz.sizeOf203
 t138:=Tryz.underlying232
 a138:=Tryz.isAgg232
 z138:=Tryz.sizeOf232
 v138:=Tryz.zeroValue232
 t139:=Tryz.underlying233
 a139:=Tryz.isAgg233
 z139:=Tryz.sizeOf233
 v139:=Tryz.zeroValue233
 g3:=by kernel_rfl
 g4:=by kernel_rfl}
open Go.RowKit Go.Lib in
theorem Tryz.utf8_ValidString (s:ByteArray)(w:World)(hs:s.size<=9223372036854775807)(hT:Lib.Utf8Tabs 1 2 w):
 Calls Tryz.prog 257 #[.string s] w λ e w'=>e= .returned (.bool (Lib.validD s.data.toList))/\Below w.heap.size w w':=Any.utf8_ValidString Tryz.uP s w hs hT
end Go.Proofs
namespace Go.Proofs.YtmjpjbmeamnfpaaGreatDoor
open Go.RowKit Go.Eng Go.Sort
theorem fW(l:List A1):l.flatMap AS=l.map encStr:=by
 induction l with
 |nil=>rfl
 |cons a l ih=>simp only[List.flatMap_cons,List.map_cons,ih];rfl
theorem uQ{w0 wv:World}{M0 M:Mem}{Rs:List HO}(u:Value)(ns:List A1)(hS:St w0 M0 wv M (.priv 9 1 u ns.length (ns.flatMap AS)::Rs))(hb:len ns<=1099511627776):
  Calls Tryz.prog 100 [u].toArray wv (CM w0 M0 M Rs (λ _:Unit=>.tuple #[]) (λ _=>True) (λ _=>[]) λ _=>[.priv 9 1 u (B4 ns).length ((B4 ns).flatMap AS)]):=by
 have hlen:ns.length<4611686018427387904:=by unfold len at hb;omega
 obtain⟨⟨hl,hv⟩,hmem⟩:=hS.obj (i:=0) rfl
 rcases hv with⟨rfl,hz⟩|⟨g,cap,cur,rfl,hg,hh,hnc,hcm,hcs,htk⟩
 ·have hns:ns=[]:=List.eq_nil_of_length_eq_zero hz
  subst hns
  refine(Tryz.slices_Sort_string_none none 0 wv).mono ?_
  rintro e w' ⟨rfl,rfl⟩
  have e:B4 []=[]:=by unfold B4;simp
  exact⟨(),M,rfl,trivial,Mem.le.refl _,by rw[e];exact hS,A7⟩
 ·rw[fW,Nat.mul_one]at htk
  have hH:Holds encStr wv g 0 ns.toArray:=holds_of_block hh (by simpa using htk)
  have hgl:g<wv.heap.size:=(Array.getElem?_eq_some_iff.1 hh).1
  refine(Tryz.slices_Sort_string g 0 cap ns wv hH hgl hlen).mono ?_
  rintro e w' ⟨rfl,nn,os,rfl⟩
  have hsl:(B4 ns).length=ns.length:=by unfold B4;rw[List.length_mergeSort]
  have hgr:=grownBy_sorted (w:=wv) (g:=g) (n:=nn) (os:=os) (B4 ns).toArray
  have hrow:(grow (putRow encStr (Sort.ahead wv nn) g 0 (B4 ns).toArray) os).ownsRow w0.heap.size 9 1 (.slice (some ⟨g,0,none⟩) ns.length cap) ns.length ((B4 ns).map encStr):=ownsRow_sorted (by rw[hsl]) hg hh hnc hcm hcs
  refine⟨(),M,rfl,trivial,Mem.le.refl _,?_,A7⟩
  rw[fW,hsl]
  refine hS.write (i:=0) rfl ((Below.refl _ _).grown hgr hS.size λ j hj=>by cases hj;exact hg) ⟨λ b o v hbo=>?_⟩ (λ _ _ _=>rfl) (λ b hb hne=>hgr.block b hb λ e=>hne e.symm) (λ _ _ _ _=>rfl) ⟨hrow,λ b hb o=>hmem b hb o⟩ (λ _ hb=>.inl hb)
  have hne:b≠g:=λ e=>by subst e;rw[hmem b rfl o]at hbo;cases hbo
  have hc:=hS.sat.cell b o v hbo
  have hlt:=lt_of_cell hc
  have:=hgr.block b hlt (λ e=>hne (Option.some.inj e))
  rw[<-hc]
  exact World.cell?_of_block (a:=⟨b,o,none⟩) this
end Go.Proofs.YtmjpjbmeamnfpaaGreatDoor
namespace Go.Eng
open Go.RowKit
section
variable {c:Cx} {B:Exit->Act->World->Prop} {k k':List Fr} {m:Md} {s s':XS} {O:Prop} {E:List Ck} {all:Array Oper} {rest:List Oper} {d:Nat} {ty:TypeId} {ps:String} {af:Array Edge}
theorem uR(kk kr:Nat){t kt e:TypeId}{x:Operand}{b cl:Nat}{l:List SV}{E1:List Ck}(h:run c.T c.N k m s=⟨k',.ops all (⟨some d,.range t x,ty,ps,af,none⟩::rest),s',O,E⟩)(hE:A5 E)(hO:O)
  (hx:BA s'.L .t x=some (.v (.map (some b)),E1)) (hE1:A5 E1) (hk:ES s'.H kk=some (.ho (.raw b (CE l cl)))) (ht:c.P.underlying t=some (.map kt e)) (hd:Nat.blt d c.N=true)
  (hn: ∀r,XG c B k' (.ops all rest) ⟨s'.F,(kr,.ho (.raw r (.mapIter (some b) cl #[] cl)))::s'.H,(d,.t,.v (.pointer (some ⟨r,0,none⟩)))::s'.L⟩):XG c B k m s:=by
 refine F6 h hE hO λ w M hX=>?_
 obtain⟨i,hi,_⟩:=GH (Hr:=c.Hr) hk
 exact RL.tO hX.st hi (AI hx hE1) ht hd λ w' r hS=>FI (hn r) ⟨hS,hX.f,hX.le⟩ U
theorem uS(kk kr:Nat){x:Operand}{b r cl since c0:Nat}{seen:Array Nat}{l:List SV}{E1:List Ck}(h:run c.T c.N k m s=⟨k',.ops all (⟨some d,.next x false,ty,ps,af,none⟩::rest),s',O,E⟩)(hE:A5 E)(hO:O)
  (hx:BA s'.L .t x=some (.v (.pointer (some ⟨r,0,none⟩)),E1)) (hE1:A5 E1) (hk:ES s'.H kk=some (.ho (.raw b (CE l cl)))) (hj:ES s'.H kr=some (.ho (.raw r (.mapIter (some b) since seen c0))))
  (hold: ∀p∈l,p.born<since) (hsc:since<=c0) (hd:Nat.blt d c.N=true)
  (h1: ∀p∈l,¬seen.contains p.born=true->XG c B k' (.ops all rest) ⟨s'.F,D5 s'.H kr (.ho (.raw r (.mapIter (some b) since (seen.push p.born) cl))),(d,.t,.tu [.v (.bool true),.v (str p.key),.v p.val])::s'.L⟩)
  (h2:(∀p∈l,seen.contains p.born=true)->XG c B k' (.ops all rest) ⟨s'.F,s'.H,(d,.t,.tu [.v (.bool false)])::s'.L⟩):XG c B k m s:=by
 refine F6 h hE hO λ w M hX=>?_
 obtain⟨i,hi,_⟩:=GH (Hr:=c.Hr) hk
 obtain⟨j,hj',hset'⟩:=GH (Hr:=c.Hr) hj
 refine RL.tP hX.st hi hj' (AI hx hE1) hold hsc hd (λ p hp hns w' hS=>?_) (λ hall=>FI (h2 hall) hX U)
 refine FI (h1 p hp hns) ⟨?_,hX.f,hX.le⟩ U
 have e:=hset' (.ho (.raw r (.mapIter (some b) since (seen.push p.born) cl)))
 show St c.w0 c.M0 w' M (HD (D5 s'.H kr (.ho (.raw r (.mapIter (some b) since (seen.push p.born) cl))))++c.Hr)
 rw[e];exact hS
theorem uT(kk kr:Nat)(p:SV){x:Operand}{b r cl since:Nat}{seen:Array Nat}{l:List SV}{gd:Option (Nat×Bool)}{W:Gd}{E1:List Ck}(h:run c.T c.N k m s=⟨k',.ops all (⟨some d,.entry x,ty,ps,af,gd⟩::rest),s',O,E⟩)(hE:A5 E)(hO:O)(hg:(GJ all s'.L gd,Nat.blt d c.N)=(some W,true))
  (hx:BA s'.L W x=some (.v (.pointer (some ⟨r,0,none⟩)),E1)) (hE1:A5 E1) (hk:ES s'.H kk=some (.ho (.raw b (CE l cl)))) (hj:ES s'.H kr=some (.ho (.raw r (.mapIter (some b) since (seen.push p.born) cl))))
  (hp:p∈l) (hnd:(l.map (·.born)).Nodup) (hn:XG c B k' (.ops all rest) ⟨s'.F,s'.H,(d,W,.tu [.v (str p.key),.v p.val])::s'.L⟩):XG c B k m s:=
 CZ (.tu [.v (str p.key),.v p.val]) h hE hO hg (λ w M hX=>by
  obtain⟨i,hi,_⟩:=GH (Hr:=c.Hr) hk
  obtain⟨j,hj',_⟩:=GH (Hr:=c.Hr) hj
  exact .tQ hX.st B8 hi hj' (AI hx hE1) hp hnd) hn
end
def IQ(l:List SV)(seen:Array Nat)(vs:List SV):Prop:=seen.toList=vs.map (·.born)/\(∀p∈vs,p∈l)/\vs.Nodup
theorem IQ.nil (l:List SV):IQ l #[] []:=⟨rfl,λ _ h=>(by cases h),.nil⟩
theorem IQ.push {l:List SV}{seen:Array Nat}{vs:List SV}{p:SV}(h:IQ l seen vs)(hp:p∈l)(hn: ¬seen.contains p.born=true):IQ l (seen.push p.born) (vs++[p]):=by
 obtain⟨h1,h2,h3⟩:=h
 refine⟨by simp[h1],λ q hq=>?_,?_⟩
 ·rcases List.mem_append.1 hq with hq|hq
  ·exact h2 q hq
  ·rw[List.mem_singleton.1 hq];exact hp
 ·rw[List.nodup_append]
  refine⟨h3,by simp,λ a ha b hb e=>?_⟩
  rw[List.mem_singleton.1 hb]at e;subst e
  apply hn
  rw[Array.contains_iff_mem,Array.mem_def,h1]
  exact List.mem_map.2 ⟨a,ha,rfl⟩
theorem IQ.le {l:List SV}{seen:Array Nat}{vs:List SV}(h:IQ l seen vs):vs.length<=l.length:=by
 obtain⟨_,h2,h3⟩:=h
 have key: ∀(vs l:List SV),vs.Nodup->(∀p∈vs,p∈l)->vs.length<=l.length:=by
  intro vs
  induction vs with
  |nil=>intro l _ _;exact Nat.zero_le _
  |cons a vs ih=>
   intro l hn hs
   obtain⟨s,t,rfl⟩:=List.append_of_mem (hs a List.mem_cons_self)
   rw[List.nodup_cons]at hn
   have:=ih (s++t) hn.2 (λ p hp=>by
    have h1:=hs p (List.mem_cons_of_mem _ hp)
    rcases List.mem_append.1 h1 with h1|h1
    ·exact List.mem_append.2 (.inl h1)
    ·rcases List.mem_cons.1 h1 with rfl|h1
     ·exact absurd hp hn.1
     ·exact List.mem_append.2 (.inr h1))
   simp only[List.length_append,List.length_cons]at*;omega
 exact key vs l h3 h2
theorem IQ.all {l:List SV}{seen:Array Nat}{vs:List SV}(h:IQ l seen vs)(hb:(l.map (·.born)).Nodup)(hall: ∀p∈l,seen.contains p.born=true):vs.Perm l:=by
 obtain⟨h1,h2,h3⟩:=h
 have inj: ∀ {l:List SV} {p q:SV},(l.map (·.born)).Nodup->p∈l->q∈l->p.born=q.born->p=q:=by
  intro l
  induction l with
  |nil=>intro p q _ hp;cases hp
  |cons a l ih=>
   intro p q hn hp hq he
   rw[List.map_cons,List.nodup_cons]at hn
   rcases List.mem_cons.1 hp with h1|h1
   ·rcases List.mem_cons.1 hq with h2|h2
    ·rw[h1,h2]
    ·exact absurd (List.mem_map.2 ⟨q,h2,by rw[<-he,h1]⟩) hn.1
   ·rcases List.mem_cons.1 hq with h2|h2
    ·exact absurd (List.mem_map.2 ⟨p,h1,by rw[he,h2]⟩) hn.1
    ·exact ih hn.2 h1 h2 he
 have hsub: ∀p∈l,p∈vs:=by
  intro p hp
  have:=hall p hp
  rw[Array.contains_iff_mem,Array.mem_def,h1]at this
  obtain⟨q,hq,he⟩:=List.mem_map.1 this
  rw[<-inj hb (h2 q hq) hp he];exact hq
 have hln:l.Nodup:=by
  clear hall hsub inj h1 h2 h3
  induction l with
  |nil=>exact .nil
  |cons a l ih=>
   rw[List.map_cons,List.nodup_cons]at hb
   exact List.nodup_cons.2 ⟨λ ha=>hb.1 (List.mem_map.2 ⟨a,ha,rfl⟩),ih hb.2⟩
 exact(List.perm_ext_iff_of_nodup h3 hln).2 λ p=>⟨h2 p,hsub p⟩
end Go.Eng
set_option maxRecDepth 100000
namespace Go.Eng
def MD(rt:Tf->Bool)(f:Nat)(l:List Tk)(d:Int)(ns:List A1)(i:Int):PR (A1×Tf):=
 if(at' l i).kind≠2/\(at' l i).kind≠4\/(at' l i).s∈ns then B7 l i 1
 else(AV l (i+1) [58]).bind λ _ k=>(AY AH rt f l d k).bind λ x m=>.ok ((at' l i).s,x) m
end Go.Eng
namespace Go.Proofs.YtmjpjbmeamnfpaaGreatDoor
open Go.Eng
abbrev K4(mb:Nat)(ns:List A1)(hs:List AO):HO:=.raw mb (CE (CX ns hs 0) ns.length)
theorem uU{rt:Tf->Bool}{f:Nat}(H:HA rt f){w0 wv:World}{M0 M:Mem}{Rs:List HO}{b mb:Nat}{v:Value}{l:List Tk}{i d:Int}{ns:List A1}{hs:List AO}(hS:St w0 M0 wv M (E6 b v i d::K4 mb ns hs::Rs))(hl:Sl M 9 l.length v (l.flatMap Tk.cells))(hg:Gl w0)(ok:DV l)(h0:0<=i)(h1:i<len l)
   (hlen:ns.length=hs.length) (hd0:0<=d) (hd:d<=64) (hf:4*(len l-i)-6<=(f:Int)):
   Calls Tryz.prog 98 [.pointer (some ⟨b,0,none⟩),.map (some mb)].toArray wv (KO w0 M0 M Rs 82 (MD rt f l d ns i) λ q j=>CM w0 M0 M Rs (λ h:AO=>.tuple #[]) (λ _=>True) (λ h=>[(7,CJ h.v q.2.flat)]) λ h=>[E6 b v j d,K4 mb (ns++[q.1]) (hs++[h])]):=by
 have hfew:=ok.few
 refine AX (Hr:=Rs) AT Tryz.func98 U Tryz.ntmps98 [(0,kn v 9 l Tk.cells)] [(0,AK b v i d),(2,.ho (K4 mb ns hs))] [.bx 0 b 0,.v (.map (some mb))] U hS (fc 0 hl (λ _=>rfl) A7) (λ B hB=>?_) U
 unfold MD at hB
 refine C4 [0] (D1 (at' l i)) U (A0 U) (by omega) Tryz.call41 U U (A0 U) U (λ _ w M hS hF=>DH hS (hF.get (k:=0) U).sl h0 h1) U ?_
 refine CI 4 U (A0 U) (by omega) Tryz.zeroValue63 U λ b4=>?_
 refine O1 2 U (A0 U) (by omega) U U (A0 U) U Tryz.underlying148 Tryz.underlying9 Tryz.zeroValue36 (v:=if(at' l i).s∈ns then(at' hs (DR ns (at' l i).s)).v else .slice none 0 0) (q:=decide ((at' l i).s∈ns)) (by rw[T3 ns hs 0 _ hlen];split<;>rfl) (by rw[T3 ns hs 0 _ hlen];by_cases hm:(at' l i).s∈ns<;>simp[hm]) ?_
 refine A8 U (A0 U) (by simp only[zb]<;>omega) (λ hb1=>?_) (λ hb1=>?_)<;>simp only[zb]at hb1
 ·rw[if_pos hb1]at hB
  exact ET [0] U (A0 U) (by omega) U Tryz.call42 U (A0 U) U (λ w M hS hF=>H7 (at' l i) 1 hS) λ a w M hs hS hle=>DQ _ (hB.p ⟨M,rfl,hS.drop _ HT,hle⟩ a hs)
 rw[if_neg (by
    rintro(⟨q1,q2⟩|q);· exact hb1.1.elim q1 q2
    ·exact hb1.2 q)]at hB
 have hi1:i+1<len l:=ok.last i h0 h1 λ e=>by rw[e]at hb1;exact absurd hb1.1 (by decide)
 refine BH [0] [] (λ _ (_:Unit)=>.tu []) (λ _ j _=>[(0,AK b v j d)]) hB U (A0 U) (by simp only[zb]<;>omega) U Tryz.call97 U U (A0 U) U HT (λ w M hS hF=>NT [58] hS (hF.get (k:=0) U).sl (by omega) hi1 (by omega)) (λ _ _=>rfl) (λ _ _ _=>rfl) λ _ k hk hB _ _=>?_
 obtain⟨rfl,hk1,_⟩:=EI ok (by omega) hi1 hk
 refine KY [4,5] 3 (λ _ _ _ _ _ h=>h) U (A0 U) (by omega) EU (by decide+kernel) ?_
 refine CO 4 U (A0 U) (by omega) U U ?_
 refine BH [0] [] (λ _ (h:AO)=>.sl 7 h.v) (λ x j h=>[(0,AK b v j d),(7,CD h.v x.flat)]) hB U (A0 U) (by omega) U Tryz.call40 U U (A0 U) U HT (λ w M hS hF=>H.rd ⟨hS,(hF.get (k:=0) U).sl,hg,ok,by omega,hk1⟩ hd0 hd (by omega) trivial) (λ _ _=>rfl) (λ _ _ _=>rfl) λ x m hx hB h7 _=>?_
 refine HK 7 U ?_
 refine C6 U (A0 U) (by omega) ?_
 refine CO 5 U (A0 U) (by omega) U U ?_
 have hst:=u0 (x:=h7) hlen hb1.2
 refine PY false 2 (CX (ns++[(at' l i).s]) (hs++[h7]) 0) (ns++[(at' l i).s]).length U (A0 U) (by omega) U U U (A0 U) U Tryz.underlying148 Tryz.underlying9 hst.1 hst.2 ?_
 refine C6 U (A0 U) (by omega) ?_
 refine HQ U (A0 U) (by omega) U U ?_
 exact P1 hB U U (A0 U) (by omega) λ w M' hX=>⟨h7,M',rfl,trivial,hX.le,hX.BX [0,2] U,BW (hX.f.get (k:=7) U) A7⟩
abbrev PZ(b3:Nat)(o:Int):HX:=.box b3 [I 2,I 0,.v (str []),.v (str []),I o,I 0,I 0,.v (str []),.v (str []),.v (.bool false),I 0] 48
abbrev ME(hs:List AO)(gs:List Tf):Kn:=HU hs (gs.map Tf.flat)
theorem fX{rt:Tf->Bool}{f:Nat}{l:List Tk}{d j:Int}{ns:List A1}{xs:List Tf}(h:xs.map (λ x=>x.t.name)=ns):
   (if(at' l j).kind≠2/\(at' l j).kind≠4\/(at' l j).s∈xs.map (λ x=>x.t.name)then B7 l j 1
    else(AV l (j+1) [58]).bind λ _ k=>(AY AH rt f l d k).bind λ x m=>DL AH rt f l d (xs++[x.named (at' l j).s]) m)=(MD rt f l d ns j).bind λ q m=>DL AH rt f l d (xs++[q.2.named q.1]) m:=by
 rw[h]
 unfold MD
 split
 ·rfl
 ·rw[PR.assoc]
  refine PR.congr λ _ k=>?_
  rw[PR.assoc];rfl
theorem uV{rt:Tf->Bool}{f:Nat}{l:List Tk}(ok:DV l){d i m:Int}{ns:List A1}{n:A1}{x:Tf}(h0:0<=i)(h1:i<len l)(h:MD rt f l d ns i= .ok (n,x) m):K2 l (i+2) x m/\n ∉ ns/\len n<=1048576:=by
 unfold MD at h
 split at h
 ·exact(CP h).elim
 ·rename_i hc
  have hi1:i+1<len l:=ok.last i h0 h1 λ e=>hc (.inl (by rw[e];decide))
  obtain⟨_,k,h2,h3⟩:=B3 h
  obtain⟨rfl,h4,_⟩:=EI ok (by omega) hi1 h2
  obtain⟨y,m',h5,h6⟩:=B3 h3
  cases h6
  have:=(JF rt ok f).ty _ _ _ _ (by omega) h4 h5
  rw[show i+1+1=i+2 by omega]at this
  exact⟨this,λ q=>hc (.inr q),ok.bd _ (at_mem h0 h1)⟩
def fY(rt:Tf->Bool)(f:Nat)(l:List Tk)(d i:Int):PR Tf:=(CV l d i [123]).bind λ _ j=>DL AH rt f l (d+1) [] j
theorem uW{rt:Tf->Bool}{f:Nat}(H: ∀g,g<=f->HA rt g):L3 1 64 (fY rt f) f O3:=by
 intro w0 wv M0 M Rs b v l i d h hd0 hd hf _
 obtain⟨hS,hl,hg,ok,h0,h1⟩:=h
 have hfew:=ok.few
 refine AX (Hr:=Rs) AT Tryz.func64 U Tryz.ntmps64 [(0,kn v 9 l Tk.cells)] [(0,AK b v i d)] [.bx 0 b 0] U hS (fc 0 hl (λ _=>rfl) A7) (λ B hB=>?_) U
 refine BH [0] [] (λ _ (_:Unit)=>.tu []) (λ _ j _=>[(0,AK b v j (d+1))]) hB U (A0 U) (by omega) U Tryz.call95 U U (A0 U) U (List.Sublist.refl _) (λ w M hS hF=>M6 [123] ⟨hS,(hF.get (k:=0) U).sl,hg,ok,h0,h1⟩ ⟨hd0,hd⟩) (λ _ _=>rfl) (λ _ _ _=>rfl) λ _ k hk hB _ _=>?_
 obtain⟨rfl,hk1,hd2,_⟩:=GU ok h0 h1 hk
 generalize hR:DL AH rt f l (d+1) [] (i+1)=R at hB
 refine CI 3 U (A0 U) (by omega) Tryz.zeroValue48 U λ b3=>?_
 refine fA 4 U (A0 U) (by omega) U λ mb=>?_
 refine I8 8 (ME [] []) (λ w M hX=>⟨Sl.nil M 1,DC,trivial⟩) ?_
 refine eK (σ:=Int×List A1×List AO×List Tf×Bool×Nat) 1 (λ s=> ∃(o j:Int) (ns:List A1) (hs:List AO) (gs:List Tf),i<j/\j<len l/\ns.length=hs.length/\ns.length=gs.length/\ns.Nodup/\EM (i+1) j (DA ns gs)/\len ns<=j-i/\R=((AV l j [125]).bind λ _ m=>.ok (HN o (DA ns gs)) m)/\
     s=⟨[(0,kn v 9 l Tk.cells),(8,ME hs gs)],[(0,AK b v j (d+1)),(3,PZ b3 o),(4,.ho (K4 mb ns hs))],[Z 0 (.bx 0 b 0),Z 3 (.bx 3 b3 0),Z 4 (.v (.map (some mb)))]⟩)
   (λ(j,ns,hs,gs,fi,q)=>⟨[(0,kn v 9 l Tk.cells),(8,ME hs gs)],[(0,AK b v j (d+1)),(3,PZ b3 0),(4,.ho (K4 mb ns hs))],[Z 0 (.bx 0 b 0),Z 3 (.bx 3 b3 0),Z 4 (.v (.map (some mb))),Z 5 (.v (.bool fi))]⟩)
   (λ(j,ns,hs,gs,fi,q)=>i<j/\j<len l/\ns.length=hs.length/\ns.length=gs.length/\ns.Nodup/\EM (i+1) j (DA ns gs)/\len ns<=j-i/\(DA ns gs).isEmpty=fi/\4*(len l-j)+1<=(q:Int)/\q<=f/\DL AH rt q l (d+1) (DA ns gs) j=R) (λ(j,ns,hs,gs,fi,q)=>(len l-j).toNat) (i+1,[],[],[],true,f) U (A0 U) (by omega) U U ⟨by omega,hk1,rfl,rfl,.nil,.nil _,by show(0:Int)<=_;omega,rfl,by omega,Nat.le_refl _,hR⟩ ?_ ?_
 ·rintro⟨j,ns,hs,gs,fi,q⟩ ⟨hj0,hj1,hl1,hl2,hnd,hgs,hnl,hfi,hq,hqf,hst⟩
  cases q with
  |zero=>exfalso;omega
  |succ q=>
  rw[DL]at hst
  refine C4 [0] (.v (.bool (AN l j [125]))) U (A0 U) (by omega) Tryz.call63 U U (A0 U) U (λ _ w M hS hF=>HP [125] hS (hF.get (k:=0) U).sl (by omega) hj1) U ?_
  refine A8 U (A0 U) (by omega) (λ hb1=>?_) (λ hb1=>?_)
  ·have hb:AN l j [125]=false:=by simpa using hb1
   rw[if_neg (by rw[hb];decide)]at hst
   rw[<-hst]at hB
   refine HL 0 (λ s=> ∃j',j<=j'/\j'<len l/\4*(len l-j')<=(q:Int)/\R=(if AN l j' [63]then
       if(DA ns gs).isEmpty&&AN l (j'+1) [58]then(AY AH rt q l (d+1) (j'+2)).bind λ x k=>(AV l k [125]).bind λ _ m=>.ok (.mk (AR 3) [x]) m
       else(AV l (j'+1) [125]).bind λ _ m=>.ok (HN 1 (DA ns gs)) m
      else(MD rt q l (d+1) ns j').bind λ q' m=>DL AH rt q l (d+1) (DA ns gs++[q'.2.named q'.1]) m)/\s=⟨[(0,kn v 9 l Tk.cells),(8,ME hs gs)],[(0,AK b v j' (d+1)),(3,PZ b3 0),(4,.ho (K4 mb ns hs))],[Z 0 (.bx 0 b 0),Z 3 (.bx 3 b3 0),Z 4 (.v (.map (some mb))),Z 5 (.v (.bool fi))]⟩) U (A0 U) (by omega) U (λ hb2=>?_) (λ hb2=>?_) ?_
   ·have hf2:fi=false:=by simpa using hb2
    rw[hfi,hf2,if_neg (by decide)]at hB hst
    refine BH [0] [] (λ _ (_:Unit)=>.tu []) (λ _ j _=>[(0,AK b v j (d+1))]) hB U (A0 U) (by omega) U Tryz.call97 U U (A0 U) U HT (λ w M hS hF=>NT [44] hS (hF.get (k:=0) U).sl (by omega) hj1 (by omega)) (λ _ _=>rfl) (λ _ _ _=>rfl) λ _ k hk hB _ _=>?_
    obtain⟨rfl,hk1,_⟩:=EI ok (by omega) hj1 hk
    rw[hk,PR.H9,fX (T2 hl2)]at hst
    exact BB _ U (A0 U) (by omega) U ⟨j+1,by omega,hk1,by omega,by rw[hfi,hf2];exact hst.symm,rfl⟩
   ·have hf2:fi=true:=by simpa using hb2
    rw[hfi,hf2,if_pos U,PR.H9,fX (T2 hl2)]at hst
    exact BB _ U (A0 U) (by omega) U ⟨j,by omega,hj1,by omega,by rw[hfi,hf2];exact hst.symm,rfl⟩
   rintro s ⟨j',hjj,hj2,hq2,hR2,rfl⟩
   rw[hst,hR2]at hB
   refine C4 [0] (.v (.bool (AN l j' [63]))) U (A0 U) (by omega) Tryz.call63 U U (A0 U) U (λ _ w M hS hF=>HP [63] hS (hF.get (k:=0) U).sl (by omega) hj2) U ?_
   refine A8 U (A0 U) (by omega) (λ hb3=>?_) (λ hb3=>?_)
   ·have hb4:AN l j' [63]=false:=by simpa using hb3
    rw[if_neg (by rw[hb4];decide)]at hB hR2
    refine BH [0,4] [7] (λ(_:A1×Tf) (h:AO)=>.tu []) (λ(q':A1×Tf) j h=>[(0,AK b v j (d+1)),(4,.ho (K4 mb (ns++[q'.1]) (hs++[h])))]) (Fg:=λ(q':A1×Tf) (_:Int) (h:AO)=>[(7,CJ h.v q'.2.flat)]) hB U (A0 U) (by omega) U Tryz.call98 U U (A0 U) U (List.sublist_cons_self _ _) (λ w M hS hF=>uU (H q (by omega)) hS (hF.get (k:=0) U).sl hg ok (by omega) hj2 hl1 (by omega) (by omega) (by omega)) (λ _ _=>rfl) (λ _ _ _=>rfl) λ q' m hq' hB h7 _=>?_
    obtain⟨gx,hnew,hnm⟩:=uV ok (by omega) hj2 hq'
    have hlt:=gx.lt
    have hle:=gx.le
    rw[hq',PR.H9]at hR2
    refine I8 8 (ME (hs++[h7]) (gs++[q'.2])) (λ w M hX=>⟨Sl.nil M 1,DC,by show C8 M 11 Tm.cells (hs++[h7]) ((gs++[q'.2]).map Tf.flat);rw[List.map_append];exact C8.snoc (hX.sl 7 U) (hX.f.get (k:=8) U).more⟩) ?_
    exact DJ (m,ns++[q'.1],hs++[h7],gs++[q'.2],false,q) rfl (A0 rfl) (by omega) rfl ⟨by omega,hle,by simp[hl1],by simp[hl2],List.nodup_append.2 ⟨hnd,by simp,λ a ha b hb e=>by rw[List.mem_singleton.1 hb]at e;subst e;exact hnew ha⟩,by
      rw[XI hl2];exact(hgs.mono (j:=j'+2) (by omega)).fM gx hnm,by rw[AJ];show len ns+1<=_;omega,by rw[XI hl2];simp,by omega,by omega,by rw[XI hl2];exact hR2.symm⟩ (by show Int.toNat _<Int.toNat _;omega)
   ·have hb4:AN l j' [63]=true:=by simpa using hb3
    rw[if_pos hb4]at hB hR2
    have hj3:=G4 ok (by omega) hj2 hb4
    refine C4 [0] (.v (.bool (AN l (j'+1) [58]))) U (A0 U) (by simp only[zb]<;>omega) Tryz.call63 U U (A0 U) U (λ _ w M hS hF=>HP [58] hS (hF.get (k:=0) U).sl (by omega) hj3) U ?_
    rw[hfi]at hB hR2
    refine A8 U (A0 U) (by simp only[zb]<;>omega) (λ hb5=>?_) (λ hb5=>?_)
    ·rw[if_pos hb5]at hB
     have hb6:AN l (j'+1) [58]=true:=by rw[Bool.and_eq_true]at hb5;exact hb5.2
     have hj4:=G4 ok (by omega) hj3 hb6
     have e2:j'+2=j'+1+1:=by omega
     rw[e2]at hB
     refine BH [0] [] (λ _ (h:AO)=>.sl 7 h.v) (λ x j h=>[(0,AK b v j (d+1)),(7,CD h.v x.flat)]) hB U (A0 U) (by simp only[zb]<;>omega) U Tryz.call40 U U (A0 U) U HT (λ w M hS hF=>(H q (by omega)).rd ⟨hS,(hF.get (k:=0) U).sl,hg,ok,by omega,hj4⟩ (by omega) (by omega) (by omega) trivial) (λ _ _=>rfl) (λ _ _ _=>rfl) λ x m hx hB h7 _=>?_
     have gx:=(JF rt ok q).ty _ _ _ _ (by omega) hj4 hx
     have hlt:=gx.lt
     have hsz:=gx.size
     have hle:=gx.le
     refine BH [0] [] (λ _ (_:Unit)=>.tu []) (λ _ j _=>[(0,AK b v j d)]) hB U (A0 U) (by omega) U Tryz.call96 U U (A0 U) U cE (λ w M hS hF=>M7 [125] ⟨hS,(hF.get (k:=0) U).sl,hg,ok,by omega,hle⟩ (by omega) (by omega)) (λ _ _=>rfl) (λ _ _ _=>rfl) λ _ n hn hB _ _=>?_
     refine HK 7 U ?_
     refine E9 9 [h7] D8 1 36 GP U (A0 U) (by omega) U (A0 U) (λ w=>by kernel_rfl) U λ v9=>?_
     refine B6 [] (λ h:AO=>.sl 10 h.v) [] (λ u=>[(10,CD u.v (Tf.mk (AR 3) [x]).flat)]) U (A0 U) (by omega) U Tryz.call99 U U (A0 U) U (λ w M hS hF=>T5 (AR 3) v9 h7 x hS (hF.get (k:=9) U).sl (hF.get (k:=7) U).sl (by omega)) (λ _=>rfl) (λ _=>rfl) λ h10 _=>?_
     exact AE hB U U (A0 U) (by omega) U (A0 U) λ w M' hX=>⟨h10,M',rfl,trivial,hX.le,hX.BX [0,10] U,A7⟩
    ·rw[if_neg (by rw[hb5];decide)]at hR2
     exact BB _ U (A0 U) (by simp only[zb]<;>omega) U ⟨1,j'+1,ns,hs,gs,by omega,hj3,hl1,hl2,hnd,hgs.mono (by omega),by omega,hR2,rfl⟩
  ·have hb:AN l j [125]=true:=by simpa using hb1
   rw[if_pos hb]at hst
   exact BB _ U (A0 U) (by omega) U ⟨0,j,ns,hs,gs,hj0,hj1,hl1,hl2,hnd,hgs,hnl,by rw[<-hst];unfold AV;rw[if_pos hb];rfl,rfl⟩
 rintro s ⟨o,j,ns,hs,gs,hj0,hj1,hl1,hl2,hnd,hgs,hnl,hRR,rfl⟩
 rw[hRR]at hB
 have hnl0:=AA ns
 have hsz:=hgs.size
 have hgl:len (DA ns gs)=len ns:=by have:=congrArg List.length (T2 hl2);rw[List.length_map]at this;unfold len;omega
 refine BH [0] [] (λ _ (_:Unit)=>.tu []) (λ _ j _=>[(0,AK b v j d)]) hB U (A0 U) (by omega) U Tryz.call96 U U (A0 U) U HT (λ w M hS hF=>M7 [125] ⟨hS,(hF.get (k:=0) U).sl,hg,ok,by omega,hj1⟩ (by omega) (by omega)) (λ _ _=>rfl) (λ _ _ _=>rfl) λ _ n hn hB _ _=>?_
 refine CA U (A0 U) (by omega) ?_
 refine nE 7 7 9 1 AS DC U ?_
 refine uR 4 9 U (A0 U) (by omega) U (A0 U) U Tryz.underlying148 U λ r=>?_
 obtain⟨hborn,hbnd⟩:=u4 (hs:=hs) hl1
 refine E4 (σ:=Array Nat×List SV×Value×List A1) (λ(sn,vs,u,nm)=>⟨[(0,kn v 9 l Tk.cells),(8,ME hs gs)],[(0,AK b v n d),(3,PZ b3 o),(4,.ho (K4 mb ns hs)),(9,.ho (.raw r (.mapIter (some mb) ns.length sn ns.length))),(7,.pv 9 (kn u 1 nm AS) DC)],[Z 3 (.bx 3 b3 0),Z 4 (.v (.map (some mb))),Z 7 (.sl 7 u),Z 60 (.v (.pointer (some ⟨r,0,none⟩)))]⟩)
   (λ(sn,vs,u,nm)=>IQ (CX ns hs 0) sn vs/\nm=vs.map (·.key)) (λ(sn,vs,u,nm)=>(CX ns hs 0).length-vs.length) (#[],[],.slice none 0 0,[]) U (A0 U) (by omega) U ⟨IQ.nil _,rfl⟩ ?_
 rintro⟨sn,vs,u,nm⟩ ⟨hse,hnm⟩
 have hvl:=hse.le
 have hsl:(CX ns hs 0).length=ns.length:=by have:=congrArg List.length (XJ ns hs 0 hl1);rwa [List.length_map]at this
 have hvk:len nm<=len ns:=by rw[hnm];unfold len;rw[List.length_map];omega
 have hnm0:=AA nm
 refine uS 4 9 U (A0 U) (by omega) U (A0 U) U U hborn (Nat.le_refl _) U (λ p hp hns=>?_) (λ hall=>?_)
 ·refine A8 rfl (A0 rfl) (by omega) (λ hb1=>?_) (λ hb1=>by cases hb1)
  refine uT 4 9 p U (A0 U) (by omega) U U (A0 U) U U hp hbnd ?_
  refine E9 10 [p.key] AS 1 9 DC U (A0 U) (by omega) U (A0 U) (λ w=>by kernel_rfl) U λ v10=>?_
  refine KH 16 U (A0 U) (by omega) U (A0 U) U Tryz.underlying32 Tryz.type9 U U YU (by simp only[AL,len_nil];omega) λ u'=>?_
  have hse':=hse.push hp hns
  have hle':=hse'.le
  rw[List.length_append]at hle'
  exact DJ (sn.push p.born,vs++[p],u',nm++[p.key]) U (A0 U) (by omega) U ⟨hse',by rw[hnm,List.map_append];rfl⟩ (by show _-(vs++[p]).length<_-vs.length;rw[List.length_append];simp only[List.length_cons,List.length_nil]at*;omega)
 have hperm:=hse.all hbnd hall
 have hsn:B4 nm=B4 ns:=by rw[hnm];exact u5 hl1 hperm
 have hsnl:=tV ns
 have hmem: ∀ {x:A1},x∈B4 ns->x∈ns:=λ h=>tU.1 h
 have hix: ∀ {k:Int},0<=k->k<len (B4 ns)->0<=DR ns (at' (B4 ns) k)/\DR ns (at' (B4 ns) k)<len ns:=λ h0 h1=>tY (hmem (at_mem h0 h1))
 refine A8 rfl (A0 rfl) (by omega) (λ hb1=>by cases hb1) (λ _=>?_)
 refine B6 [7] (λ _:Unit=>.tu []) [] (λ _=>[(7,.pv 9 (kn u 1 (B4 ns) AS) DC)]) U (A0 U) (by omega) U Tryz.call100 U U (A0 U) U (λ w M hS hF=>by have:=uQ u nm hS (by omega);rw[hsn]at this;exact this) (λ _=>rfl) (λ _=>rfl) λ _ _=>?_
 refine HK 7 U ?_
 refine CA U (A0 U) (by omega) ?_
 refine OX 6 9 36 1 D8 GP U ?_
 refine I8 18 (HU [] []) (λ w M hX=>⟨Sl.nil M 1,DC,trivial⟩) ?_
 refine E4 (σ:=Int×Value×List AO×List Fl) (λ(k,u9,hs',rs)=>⟨[(8,ME hs gs),(7,kn u 1 (B4 ns) AS),(6,kn u9 1 hs' D8),(18,HU hs' rs)],[(0,AK b v n d),(3,PZ b3 o),(4,.ho (K4 mb ns hs)),(6,.ho (.own 36 1 u9 hs'.length (hs'.flatMap D8)))],[Z 3 (.bx 3 b3 0),Z 4 (.v (.map (some mb))),Z 7 (.sl 7 u),Z 9 (.sl 6 u9),Z 71 (.sl 7 u),Z 72 (I (len (B4 ns))),Z 73 (I k)]⟩)
   (λ(k,u9,hs',rs)=>0<=k/\k<=len (B4 ns)/\rs=(Eng.sub (B4 ns) 0 k).map (λ x=>(at' gs (DR ns x)).flat)/\len hs'=k) (λ(k,u9,hs',rs)=>(len (B4 ns)-k).toNat) (0,.slice none 0 0,[],[]) U (A0 U) (by omega) U ⟨by omega,by omega,rfl,rfl⟩ ?_
 rintro⟨k,u9,hs',rs⟩ ⟨hk0,hk1,hrs,hhl⟩
 refine A8 U (A0 U) (by omega) (λ hb2=>?_) (λ hb2=>?_)<;>simp only[zb]at hb2
 ·obtain⟨q0,q1⟩:=hix hk0 hb2
  have hin:=hmem (at_mem hk0 hb2)
  refine tT 4 U (A0 U) (by omega) U U (A0 U) U Tryz.underlying148 Tryz.underlying9 Tryz.zeroValue36 (v:=(at' hs (DR ns (at' (B4 ns) k))).v) (by rw[T3 ns hs 0 _ hl1,if_pos hin];rfl) ?_
  refine E9 10 [at' hs (DR ns (at' (B4 ns) k))] D8 1 36 GP U (A0 U) (by omega) U (A0 U) (λ w=>by kernel_rfl) U λ v10=>?_
  refine N9 24 U (A0 U) (by omega) U (A0 U) U Tryz.underlying43 Tryz.type36 U U W3 (by simp only[AL,len_nil];omega) λ v'=>?_
  refine I8 18 (HU (hs'++[at' hs (DR ns (at' (B4 ns) k))]) (rs++[(at' gs (DR ns (at' (B4 ns) k))).flat])) (λ w M hX=>⟨Sl.nil M 1,DC,by
    refine C8.snoc ?_ (hX.f.get (k:=18) U).more
    have:=C8.at (k:=DR ns (at' (B4 ns) k)) (hX.f.get (k:=8) U).more q0 (by unfold len at*;omega)
    rwa [pP _ _ q0 (by unfold len at*;omega)]at this⟩) ?_
  exact DJ (k+1,v',hs'++[at' hs (DR ns (at' (B4 ns) k))],rs++[(at' gs (DR ns (at' (B4 ns) k))).flat]) U (A0 U) (by omega) U ⟨by omega,by omega,by rw[hrs,PJ hk0 hb2,List.map_append];rfl,by rw[AJ];show len hs'+1=_;omega⟩ (by show Int.toNat _<Int.toNat _;omega)
 rw[M5 (by omega)]at hrs
 have hob:=uA hl2 hnd
 rw[<-hrs]at hob
 have hfl:len (EL (B4 ns) rs).flatten=len (AF (DA ns gs)):=by
  rw[hob,<-NV];have:=(XL (MB (DA ns gs))).length_eq;unfold len;omega
 have hfl2:=fJ (B4 ns) rs
 have hrl:len rs=len (KW (DA ns gs)):=by
  have:=congrArg len hob
  rw[fI]at this
  rw[this];unfold len;rw[List.length_map]
 have e:({ AR 2 with n:=o,many:=len rs}::(EL (B4 ns) rs).flatten:Fl)=(HN o (DA ns gs)).flat:=by
  unfold HN
  rw[Tf.WB,hob,hrl]
 have hrl2:=fI (B4 ns) rs
 have hsp:len (KW (DA ns gs))=len (DA ns gs):=by have:=(MB (DA ns gs)).length_eq;unfold len;omega
 refine B6 [] (λ h:AO=>.sl 10 h.v) [] (λ h=>[(10,CD h.v (HN o (DA ns gs)).flat)]) U (A0 U) (by omega) U Tryz.call99 U U (A0 U) U (λ w M hS hF=>by
   have:=XK { AR 2 with n:=o} u (B4 ns) u9 hs' rs hS (hF.get (k:=7) rfl).sl ⟨(hF.get (k:=6) rfl).sl,GP,(hF.get (k:=18) rfl).more⟩ (λ y hy=>by rw[hrs]at hy;obtain⟨z,_,rfl⟩:=List.mem_map.1 hy;exact Tf.WA _) (by omega) (by omega)
   rw[<-e];exact this) (λ _=>rfl) (λ _=>rfl) λ h10 _=>?_
 exact AE hB U U (A0 U) (by omega) U (A0 U) λ w M' hX=>⟨h10,M',rfl,trivial,hX.le,hX.BX [0,10] U,A7⟩
end Go.Proofs.YtmjpjbmeamnfpaaGreatDoor
