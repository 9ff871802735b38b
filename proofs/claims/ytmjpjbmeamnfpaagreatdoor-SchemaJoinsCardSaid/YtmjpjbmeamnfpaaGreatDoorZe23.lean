/-
  Parts Shelb Is Xn Il, put together and made short by wip/py/merge.py (mini.py).
-/
import Derived.Shelf.Strings.Builder1
import Derived.Shelf.Strings.Builder2
import Derived.Shelf.Strings.Trim
import Derived.Shelf.Small.Utf8
import Derived.Shelf.Small.Bits
import Derived.Shelf.Small.Strs
import Derived.Shelf.Strings.BuilderF
import Derived.Shelf.Strings.BuilderK
import Derived.Shelf.Strings.BuilderRune
import Derived.Shelf.Utf8.AppendRune
import Derived.Shelf.Utf8.AppendRunePlain
import Derived.Shelf.Strings.Builder2Cap
import Derived.Shelf.Strconv.Atoi
import Derived.Shelf.Strconv.Itoa0
import Derived.Shelf.Strconv.Itoa1
import Derived.Shelf.LaysM
import Derived.Shelf.Strconv.Itoa2
import Derived.Shelf.Strconv.Itoa3
import Derived.Shelf.Strconv.Itoa4
import Derived.Shelf.Strconv.AtoiErrFast
import Derived.Shelf.Strconv.ParseIntEmpty
import Derived.Shelf.Strconv.AtoiFail
import Derived.Shelf.Strconv.Clone
import Derived.Shelf.Strconv.SyntaxError
import Derived.Shelf.LaysC
import Derived.Shelf.Strconv.ToError
import Derived.Shelf.Strconv.Lower
import Derived.Shelf.Strconv.ParseUint10
import Derived.Shelf.Strconv.ParseUint10Empty
import Derived.Shelf.Strconv.ParseUint10Any
import Derived.Shelf.Strconv.ParseInt10
import Derived.Shelf.Strconv.AtoiLong
import Derived.Shelf.Strconv.AtoiInnerAll
import Derived.Shelf.Strconv.RangeError
import Derived.Shelf.Strconv.ToErrorRange
import Derived.Shelf.Strconv.AtoiAll
import Derived.Shelf.Strconv.ErrVarAll
import Derived.Shelf.Strconv.ParseUintEmpty
import Derived.Shelf.Strconv.ParseUint10b64
import Derived.Shelf.Strconv.ParseUint10b32
import Derived.Shelf.Strconv.ParseUint10b16
import Derived.Shelf.Strconv.ParseUint10b8
import Derived.Shelf.Strconv.ParseUint10At
import Derived.Ground.MpProg
import Derived.Shelf.Pu.ParseUintPublic10
import Derived.Shelf.Strings.Search1
import Derived.Shelf.Sort.Plain
import Derived.Shelf.GgClosure.StringsIndexFunc
import Derived.Shelf.GgClosure.StringsTrimFunc
import Derived.Shelf.GgClosure.StringsRunes
import Derived.Shelf.Strings.Prefix
import Derived.Shelf.Strings.Fields
import Derived.Shelf.Unicode.Latin
import Derived.Shelf.Unicode.Decode
import Derived.Shelf.Strings.Runes
import Derived.Shelf.Strings.IndexAny
import Derived.Shelf.Strings.AsciiSet
import Derived.Shelf.Strings.IndexAnyAll
import Derived.Shelf.Bits.Mul64
import Derived.Shelf.Strings.Repeat
import Derived.Shelf.Unicode.DecodeSlow
import Derived.Shelf.Unicode.DecodeAny
import Derived.Shelf.Unicode.Is16White
import Derived.Shelf.Unicode.IsSpaceAny
import Derived.Shelf.Unicode.DecodeLast
import Derived.Shelf.Unicode.Is16WhiteD
import Derived.Shelf.Unicode.IsSpaceAnyD
import Derived.Shelf.Strings.FieldsAny
import Derived.Shelf.Strings.FieldsFuncAny
import Derived.Shelf.Unicode.Is16Any
import Derived.Shelf.Unicode.Is32Any
import Derived.Shelf.Unicode.ExclAny
import Derived.Shelf.Strings.BuilderCap
import Derived.Shelf.Slices.In.SortNone
import Derived.Shelf.Unicode.ValidAny
import Derived.Test.YtmjpjbmeamnfpaaGreatDoorProg
import Derived.Test.YtmjpjbmeamnfpaaGreatDoorZe21
import Derived.Test.YtmjpjbmeamnfpaaGreatDoorZe8
import Derived.Sort.OwnSorted
import Derived.Test.YtmjpjbmeamnfpaaGreatDoorZe22
import Derived.Test.YtmjpjbmeamnfpaaGreatDoorZe0
set_option linter.unusedVariables false
set_option linter.unusedSimpArgs false
namespace Go.Proofs
open Go.Shelf
def Tryz.xZ:Go.Shelf.Ren:=⟨λ |190=>100|125=>141|258=>140|128=>189|129=>190|302=>180|303=>181|304=>182|305=>183|306=>184|307=>185|308=>186|309=>187|310=>188|333=>228|329=>229|330=>230|334=>231|335=>232|336=>233|344=>260|n=>n,λ |31=>32|9=>9|3=>3|46=>192|0=>0|51=>93|53=>230|4=>4|183=>223|182=>222|131=>207|5=>5|218=>265|222=>269|228=>293|229=>215|n=>n,λ |n=>n⟩
theorem Tryz.jE:Go.Proofs.Lays.n190 Tryz.prog Tryz.xZ:= {
 mixed:=by kernel_rfl
 f125:=Tryz.func141.trans (congrArg some (by kernel_rfl))
 f128:=Tryz.func189.trans (congrArg some (by kernel_rfl))
 f129:=Tryz.func190.trans (congrArg some (by kernel_rfl))
 f190:=Tryz.func100.trans (congrArg some (by kernel_rfl))
 f258:=Tryz.func140.trans (congrArg some (by kernel_rfl))
 f302:=Tryz.func180.trans (congrArg some (by kernel_rfl))
 f303:=Tryz.func181.trans (congrArg some (by kernel_rfl))
 f304:=Tryz.func182.trans (congrArg some (by kernel_rfl))
 f305:=Tryz.func183.trans (congrArg some (by kernel_rfl))
 f306:=Tryz.func184.trans (congrArg some (by kernel_rfl))
 f307:=Tryz.func185.trans (congrArg some (by kernel_rfl))
 f308:=Tryz.func186.trans (congrArg some (by kernel_rfl))
 f309:=Tryz.func187.trans (congrArg some (by kernel_rfl))
 f310:=Tryz.func188.trans (congrArg some (by kernel_rfl))
 f329:=Tryz.func229.trans (congrArg some (by kernel_rfl))
 f330:=Tryz.func230.trans (congrArg some (by kernel_rfl))
 f333:=Tryz.func228.trans (congrArg some (by kernel_rfl))
 f334:=Tryz.func231.trans (congrArg some (by kernel_rfl))
 f335:=Tryz.func232.trans (congrArg some (by kernel_rfl))
 f336:=Tryz.func233.trans (congrArg some (by kernel_rfl))
 f344:=Tryz.func260.trans (congrArg some (by kernel_rfl))
 t0:=Tryz.underlying0
 a0:=Tryz.isAgg0
 z0:=Tryz.sizeOf0
 v0:=Tryz.zeroValue0
 t3:=Tryz.underlying3
 a3:=Tryz.isAgg3
 z3:=Tryz.sizeOf3
 v3:=Tryz.zeroValue3
 t4:=Tryz.underlying4
 a4:=Tryz.isAgg4
 z4:=Tryz.sizeOf4
 v4:=Tryz.zeroValue4
 t5:=Tryz.underlying5
 a5:=Tryz.isAgg5
 z5:=Tryz.sizeOf5
 v5:=Tryz.zeroValue5
 t9:=Tryz.underlying9
 a9:=Tryz.isAgg9
 z9:=Tryz.sizeOf9
 v9:=Tryz.zeroValue9
 t31:=Tryz.underlying32
 a31:=Tryz.isAgg32
 z31:=Tryz.sizeOf32
 v31:=Tryz.zeroValue32
 t46:=Tryz.underlying192
 a46:=Tryz.isAgg192
 z46:=Tryz.sizeOf192
 v46:=Tryz.zeroValue192
 t51:=Tryz.underlying93
 a51:=Tryz.isAgg93
 z51:=Tryz.sizeOf93
 v51:=Tryz.zeroValue93
 t53:=Tryz.underlying230
 a53:=Tryz.isAgg230
 z53:=Tryz.sizeOf230
 v53:=Tryz.zeroValue230
 t131:=Tryz.underlying207
 a131:=Tryz.isAgg207
 z131:=Tryz.sizeOf207
 v131:=Tryz.zeroValue207
 t182:=Tryz.underlying222
 a182:=Tryz.isAgg222
 z182:=Tryz.sizeOf222
 v182:=Tryz.zeroValue222
 t183:=Tryz.underlying223
 a183:=Tryz.isAgg223
 z183:=Tryz.sizeOf223
 v183:=Tryz.zeroValue223
 t218:=Tryz.underlying265
 a218:=Tryz.isAgg265
 z218:=Tryz.sizeOf265
 v218:=Tryz.zeroValue265
 t222:=Tryz.underlying269
 a222:=Tryz.isAgg269
 z222:=Tryz.sizeOf269
 v222:=Tryz.zeroValue269
 t228:=Tryz.underlying293
 a228:=Tryz.isAgg293
 z228:=Tryz.sizeOf293
 v228:=Tryz.zeroValue293
 t229:=Tryz.underlying215
 a229:=Tryz.isAgg215
 z229:=Tryz.sizeOf215
 v229:=Tryz.zeroValue215}
open Go.Sort Go.RowKit in
theorem Tryz.slices_Sort_string (DF off cap:Nat)(ss:List (List UInt8))(w:World)(hH:Holds encStr w DF off ss.toArray)(hblk:DF<w.heap.size)(hsz:ss.length<4611686018427387904):
 Calls Tryz.prog 100 #[.slice (some ⟨DF,off,none⟩) ss.length cap] w λ e w'=>
  e= .returned (.tuple #[])/\ ∃n os,w'=grow (putRow encStr (Sort.ahead w n) DF off (ss.mergeSort λ x y=>decide (x<=y)).toArray) os:=Any.slices_Sort_string Tryz.jE DF off cap ss w hH hblk hsz
open Go.RowKit Go.Sort in
theorem Tryz.slices_Sort_string_none (p:Option Addr)(cap:Nat)(w:World):
 Calls Tryz.prog 100 #[.slice p 0 cap] w λ e w'=>e= .returned (.tuple #[])/\w'=w:=Any.slices_Sort_string_none Tryz.jE p cap w
def Tryz.y5:Go.Shelf.Ren:=⟨λ |196=>257|259=>285|n=>n,λ |9=>9|4=>4|3=>3|5=>5|12=>12|119=>203|0=>0|46=>192|139=>233|138=>232|53=>230|n=>n,λ |3=>1|4=>2|n=>n⟩
theorem Tryz.y7:Go.Proofs.Lays.n196 Tryz.prog Tryz.y5:= {
 mixed:=by kernel_rfl
 f196:=Tryz.func257.trans (congrArg some (by kernel_rfl))
 f259:=Tryz.func285.trans (congrArg some (by kernel_rfl))
 t0:=Tryz.underlying0
 a0:=Tryz.isAgg0
 z0:=Tryz.sizeOf0
 v0:=Tryz.zeroValue0
 t3:=Tryz.underlying3
 a3:=Tryz.isAgg3
 z3:=Tryz.sizeOf3
 v3:=Tryz.zeroValue3
 t4:=Tryz.underlying4
 a4:=Tryz.isAgg4
 z4:=Tryz.sizeOf4
 v4:=Tryz.zeroValue4
 t5:=Tryz.underlying5
 a5:=Tryz.isAgg5
 z5:=Tryz.sizeOf5
 v5:=Tryz.zeroValue5
 t9:=Tryz.underlying9
 a9:=Tryz.isAgg9
 z9:=Tryz.sizeOf9
 v9:=Tryz.zeroValue9
 t12:=Tryz.underlying12
 a12:=Tryz.isAgg12
 z12:=Tryz.sizeOf12
 v12:=Tryz.zeroValue12
 t46:=Tryz.underlying192
 a46:=Tryz.isAgg192
 z46:=Tryz.sizeOf192
 v46:=Tryz.zeroValue192
 t53:=Tryz.underlying230
 a53:=Tryz.isAgg230
 z53:=Tryz.sizeOf230
 v53:=Tryz.zeroValue230
 t119:=Tryz.underlying203
 a119:=Tryz.isAgg203
 z119:=Tryz.sizeOf203
 t138:=Tryz.underlying232
 a138:=Tryz.isAgg232
 z138:=Tryz.sizeOf232
 v138:=Tryz.zeroValue232
 t139:=Tryz.underlying233
 a139:=Tryz.isAgg233
 z139:=Tryz.sizeOf233
 v139:=Tryz.zeroValue233
 g3:=by kernel_rfl
 g4:=by kernel_rfl}
open Go.RowKit Go.Lib in
theorem Tryz.utf8_ValidString (s:ByteArray)(w:World)(hs:s.size<=9223372036854775807)(hT:Lib.Utf8Tabs 1 2 w):
 Calls Tryz.prog 257 #[.string s] w λ e w'=>e= .returned (.bool (Lib.validD s.data.toList))/\Below w.heap.size w w':=Any.utf8_ValidString Tryz.y7 s w hs hT
end Go.Proofs
namespace Go.Proofs.YtmjpjbmeamnfpaaGreatDoor
open Go.RowKit Go.Eng Go.Sort
theorem jF(l:List A1):l.flatMap AW=l.map encStr:=by
 induction l with
 |nil=>rfl
 |cons a l ih=>simp only[List.flatMap_cons,List.map_cons,ih];rfl
theorem y8{w0 wv:World}{M0 M:Mem}{Rs:List HO}(u:Value)(ns:List A1)(hS:St w0 M0 wv M (.priv 9 1 u ns.length (ns.flatMap AW)::Rs))(hb:len ns<=1099511627776):
  Calls Tryz.prog 100 [u].toArray wv (CX w0 M0 M Rs (λ _:Unit=>.tuple #[]) (λ _=>True) (λ _=>[]) λ _=>[.priv 9 1 u (BC ns).length ((BC ns).flatMap AW)]):=by
 have hlen:ns.length<4611686018427387904:=by unfold len at hb;omega
 obtain⟨⟨hl,hv⟩,hmem⟩:=hS.obj (i:=0) rfl
 rcases hv with⟨rfl,hz⟩|⟨g,cap,cur,rfl,hg,hh,hnc,hcm,hcs,htk⟩
 ·have hns:ns=[]:=List.eq_nil_of_length_eq_zero hz
  subst hns
  refine(Tryz.slices_Sort_string_none none 0 wv).mono ?_
  rintro e w' ⟨rfl,rfl⟩
  have e:BC []=[]:=by unfold BC;simp
  exact⟨(),M,rfl,trivial,Mem.le.refl _,by rw[e];exact hS,AA⟩
 ·rw[jF,Nat.mul_one]at htk
  have hH:Holds encStr wv g 0 ns.toArray:=holds_of_block hh (by simpa using htk)
  have hgl:g<wv.heap.size:=(Array.getElem?_eq_some_iff.1 hh).1
  refine(Tryz.slices_Sort_string g 0 cap ns wv hH hgl hlen).mono ?_
  rintro e w' ⟨rfl,nn,os,rfl⟩
  have hsl:(BC ns).length=ns.length:=by unfold BC;rw[List.length_mergeSort]
  have hgr:=grownBy_sorted (w:=wv) (g:=g) (n:=nn) (os:=os) (BC ns).toArray
  have hrow:(grow (putRow encStr (Sort.ahead wv nn) g 0 (BC ns).toArray) os).ownsRow w0.heap.size 9 1 (.slice (some ⟨g,0,none⟩) ns.length cap) ns.length ((BC ns).map encStr):=ownsRow_sorted (by rw[hsl]) hg hh hnc hcm hcs
  refine⟨(),M,rfl,trivial,Mem.le.refl _,?_,AA⟩
  rw[jF,hsl]
  refine hS.write (i:=0) rfl ((Below.refl _ _).grown hgr hS.size λ j hj=>by cases hj;exact hg) ⟨λ b o v hbo=>?_⟩ (λ _ _ _=>rfl) (λ b hb hne=>hgr.block b hb λ e=>hne e.symm) (λ _ _ _ _=>rfl) ⟨hrow,λ b hb o=>hmem b hb o⟩ (λ _ hb=>.inl hb)
  have hne:b≠g:=λ e=>by subst e;rw[hmem b rfl o]at hbo;cases hbo
  have hc:=hS.sat.cell b o v hbo
  have hlt:=lt_of_cell hc
  have:=hgr.block b hlt (λ e=>hne (Option.some.inj e))
  rw[<-hc]
  exact World.cell?_of_block (a:=⟨b,o,none⟩) this
end Go.Proofs.YtmjpjbmeamnfpaaGreatDoor
namespace Go.Eng
open Go.RowKit
section
variable {c:Cx} {B:Exit->Act->World->Prop} {k k':List Fr} {m:Md} {s s':XS} {O:Prop} {E:List Ck} {all:Array Oper} {rest:List Oper} {d:Nat} {ty:TypeId} {ps:String} {af:Array Edge}
theorem y9(kk kr:Nat){t kt e:TypeId}{x:Operand}{b cl:Nat}{l:List SV}{E1:List Ck}(h:run c.T c.N k m s=⟨k',.ops all (⟨some d,.range t x,ty,ps,af,none⟩::rest),s',O,E⟩)(hE:A6 E)(hO:O)
  (hx:BI s'.L .t x=some (.v (.map (some b)),E1)) (hE1:A6 E1) (hk:F5 s'.H kk=some (.ho (.raw b (CP l cl)))) (ht:c.P.underlying t=some (.map kt e)) (hd:Nat.blt d c.N=true)
  (hn: ∀r,XG c B k' (.ops all rest) ⟨s'.F,(kr,.ho (.raw r (.mapIter (some b) cl #[] cl)))::s'.H,(d,.t,.v (.pointer (some ⟨r,0,none⟩)))::s'.L⟩):XG c B k m s:=by
 refine FL h hE hO λ w M hX=>?_
 obtain⟨i,hi,_⟩:=GW (Hr:=c.Hr) hk
 exact RL.x6 hX.st hi (AT hx hE1) ht hd λ w' r hS=>FV (hn r) ⟨hS,hX.f,hX.le⟩ U
theorem yA(kk kr:Nat){x:Operand}{b r cl since c0:Nat}{seen:Array Nat}{l:List SV}{E1:List Ck}(h:run c.T c.N k m s=⟨k',.ops all (⟨some d,.next x false,ty,ps,af,none⟩::rest),s',O,E⟩)(hE:A6 E)(hO:O)
  (hx:BI s'.L .t x=some (.v (.pointer (some ⟨r,0,none⟩)),E1)) (hE1:A6 E1) (hk:F5 s'.H kk=some (.ho (.raw b (CP l cl)))) (hj:F5 s'.H kr=some (.ho (.raw r (.mapIter (some b) since seen c0))))
  (hold: ∀p∈l,p.born<since) (hsc:since<=c0) (hd:Nat.blt d c.N=true)
  (h1: ∀p∈l,¬seen.contains p.born=true->XG c B k' (.ops all rest) ⟨s'.F,DH s'.H kr (.ho (.raw r (.mapIter (some b) since (seen.push p.born) cl))),(d,.t,.tu [.v (.bool true),.v (str p.key),.v p.val])::s'.L⟩)
  (h2:(∀p∈l,seen.contains p.born=true)->XG c B k' (.ops all rest) ⟨s'.F,s'.H,(d,.t,.tu [.v (.bool false)])::s'.L⟩):XG c B k m s:=by
 refine FL h hE hO λ w M hX=>?_
 obtain⟨i,hi,_⟩:=GW (Hr:=c.Hr) hk
 obtain⟨j,hj',hset'⟩:=GW (Hr:=c.Hr) hj
 refine RL.x7 hX.st hi hj' (AT hx hE1) hold hsc hd (λ p hp hns w' hS=>?_) (λ hall=>FV (h2 hall) hX U)
 refine FV (h1 p hp hns) ⟨?_,hX.f,hX.le⟩ U
 have e:=hset' (.ho (.raw r (.mapIter (some b) since (seen.push p.born) cl)))
 show St c.w0 c.M0 w' M (HD (DH s'.H kr (.ho (.raw r (.mapIter (some b) since (seen.push p.born) cl))))++c.Hr)
 rw[e];exact hS
theorem yB(kk kr:Nat)(p:SV){x:Operand}{b r cl since:Nat}{seen:Array Nat}{l:List SV}{gd:Option (Nat×Bool)}{W:Gd}{E1:List Ck}(h:run c.T c.N k m s=⟨k',.ops all (⟨some d,.entry x,ty,ps,af,gd⟩::rest),s',O,E⟩)(hE:A6 E)(hO:O)(hg:(GY all s'.L gd,Nat.blt d c.N)=(some W,true))
  (hx:BI s'.L W x=some (.v (.pointer (some ⟨r,0,none⟩)),E1)) (hE1:A6 E1) (hk:F5 s'.H kk=some (.ho (.raw b (CP l cl)))) (hj:F5 s'.H kr=some (.ho (.raw r (.mapIter (some b) since (seen.push p.born) cl))))
  (hp:p∈l) (hnd:(l.map (·.born)).Nodup) (hn:XG c B k' (.ops all rest) ⟨s'.F,s'.H,(d,W,.tu [.v (str p.key),.v p.val])::s'.L⟩):XG c B k m s:=
 DT (.tu [.v (str p.key),.v p.val]) h hE hO hg (λ w M hX=>by
  obtain⟨i,hi,_⟩:=GW (Hr:=c.Hr) hk
  obtain⟨j,hj',_⟩:=GW (Hr:=c.Hr) hj
  exact .x8 hX.st BG hi hj' (AT hx hE1) hp hnd) hn
end
def JD(l:List SV)(seen:Array Nat)(vs:List SV):Prop:=seen.toList=vs.map (·.born)/\(∀p∈vs,p∈l)/\vs.Nodup
theorem JD.nil (l:List SV):JD l #[] []:=⟨rfl,λ _ h=>(by cases h),.nil⟩
theorem JD.push {l:List SV}{seen:Array Nat}{vs:List SV}{p:SV}(h:JD l seen vs)(hp:p∈l)(hn: ¬seen.contains p.born=true):JD l (seen.push p.born) (vs++[p]):=by
 obtain⟨h1,h2,h3⟩:=h
 refine⟨by simp[h1],λ q hq=>?_,?_⟩
 ·rcases List.mem_append.1 hq with hq|hq
  ·exact h2 q hq
  ·rw[List.mem_singleton.1 hq];exact hp
 ·rw[List.nodup_append]
  refine⟨h3,by simp,λ a ha b hb e=>?_⟩
  rw[List.mem_singleton.1 hb]at e;subst e
  apply hn
  rw[Array.contains_iff_mem,Array.mem_def,h1]
  exact List.mem_map.2 ⟨a,ha,rfl⟩
theorem JD.le {l:List SV}{seen:Array Nat}{vs:List SV}(h:JD l seen vs):vs.length<=l.length:=by
 obtain⟨_,h2,h3⟩:=h
 have key: ∀(vs l:List SV),vs.Nodup->(∀p∈vs,p∈l)->vs.length<=l.length:=by
  intro vs
  induction vs with
  |nil=>intro l _ _;exact Nat.zero_le _
  |cons a vs ih=>
   intro l hn hs
   obtain⟨s,t,rfl⟩:=List.append_of_mem (hs a List.mem_cons_self)
   rw[List.nodup_cons]at hn
   have:=ih (s++t) hn.2 (λ p hp=>by
    have h1:=hs p (List.mem_cons_of_mem _ hp)
    rcases List.mem_append.1 h1 with h1|h1
    ·exact List.mem_append.2 (.inl h1)
    ·rcases List.mem_cons.1 h1 with rfl|h1
     ·exact absurd hp hn.1
     ·exact List.mem_append.2 (.inr h1))
   simp only[List.length_append,List.length_cons]at*;omega
 exact key vs l h3 h2
theorem JD.all {l:List SV}{seen:Array Nat}{vs:List SV}(h:JD l seen vs)(hb:(l.map (·.born)).Nodup)(hall: ∀p∈l,seen.contains p.born=true):vs.Perm l:=by
 obtain⟨h1,h2,h3⟩:=h
 have inj: ∀ {l:List SV} {p q:SV},(l.map (·.born)).Nodup->p∈l->q∈l->p.born=q.born->p=q:=by
  intro l
  induction l with
  |nil=>intro p q _ hp;cases hp
  |cons a l ih=>
   intro p q hn hp hq he
   rw[List.map_cons,List.nodup_cons]at hn
   rcases List.mem_cons.1 hp with h1|h1
   ·rcases List.mem_cons.1 hq with h2|h2
    ·rw[h1,h2]
    ·exact absurd (List.mem_map.2 ⟨q,h2,by rw[<-he,h1]⟩) hn.1
   ·rcases List.mem_cons.1 hq with h2|h2
    ·exact absurd (List.mem_map.2 ⟨p,h1,by rw[he,h2]⟩) hn.1
    ·exact ih hn.2 h1 h2 he
 have hsub: ∀p∈l,p∈vs:=by
  intro p hp
  have:=hall p hp
  rw[Array.contains_iff_mem,Array.mem_def,h1]at this
  obtain⟨q,hq,he⟩:=List.mem_map.1 this
  rw[<-inj hb (h2 q hq) hp he];exact hq
 have hln:l.Nodup:=by
  clear hall hsub inj h1 h2 h3
  induction l with
  |nil=>exact .nil
  |cons a l ih=>
   rw[List.map_cons,List.nodup_cons]at hb
   exact List.nodup_cons.2 ⟨λ ha=>hb.1 (List.mem_map.2 ⟨a,ha,rfl⟩),ih hb.2⟩
 exact(List.perm_ext_iff_of_nodup h3 hln).2 λ p=>⟨h2 p,hsub p⟩
end Go.Eng
set_option maxRecDepth 100000
namespace Go.Eng
def N4(rt:Tf->Bool)(f:Nat)(l:List Tk)(d:Int)(ns:List A1)(i:Int):PR (A1×Tf):=
 if(at' l i).kind≠2/\(at' l i).kind≠4\/(at' l i).s∈ns then B8 l i 1
 else(AR l (i+1) [58]).bind λ _ k=>(AP A4 rt f l d k).bind λ x m=>.ok ((at' l i).s,x) m
end Go.Eng
namespace Go.Proofs.YtmjpjbmeamnfpaaGreatDoor
open Go.Eng
abbrev KS(mb:Nat)(ns:List A1)(hs:List AO):HO:=.raw mb (CP (D7 ns hs 0) ns.length)
theorem yC{rt:Tf->Bool}{f:Nat}(H:HU rt f){w0 wv:World}{M0 M:Mem}{Rs:List HO}{b mb:Nat}{v:Value}{l:List Tk}{i d:Int}{ns:List A1}{hs:List AO}(hS:St w0 M0 wv M (EJ b v i d::KS mb ns hs::Rs))(hl:Sl M 9 l.length v (l.flatMap Tk.cells))(hg:Gl w0)(ok:C6 l)(h0:0<=i)(h1:i<len l)
   (hlen:ns.length=hs.length) (hd0:0<=d) (hd:d<=64) (hf:4*(len l-i)-6<=(f:Int)):
   Calls Tryz.prog 98 [.pointer (some ⟨b,0,none⟩),.map (some mb)].toArray wv (LG w0 M0 M Rs 82 (N4 rt f l d ns i) λ q j=>CX w0 M0 M Rs (λ h:AO=>.tuple #[]) (λ _=>True) (λ h=>[(7,BS h.v q.2.flat)]) λ h=>[EJ b v j d,KS mb (ns++[q.1]) (hs++[h])]):=by
 have hfew:=ok.few
 refine B3 (Hr:=Rs) AX Tryz.func98 U Tryz.ntmps98 [(0,kn v 9 l Tk.cells)] [(0,AS b v i d),(2,.ho (KS mb ns hs))] [.bx 0 b 0,.v (.map (some mb))] U hS (fc 0 hl (λ _=>rfl) AA) (λ B hB=>?_) U
 unfold N4 at hB
 refine CF [0] (DA (at' l i)) U (A0 U) (by omega) Tryz.call41 U U (A0 U) U (λ _ w M hS hF=>DR hS (hF.get (k:=0) U).sl h0 h1) U ?_
 refine CL 4 U (A0 U) (by omega) Tryz.zeroValue63 U λ b4=>?_
 refine PA 2 U (A0 U) (by omega) U U (A0 U) U Tryz.underlying148 Tryz.underlying9 Tryz.zeroValue36 (v:=if(at' l i).s∈ns then(at' hs (E7 ns (at' l i).s)).v else .slice none 0 0) (q:=decide ((at' l i).s∈ns)) (by rw[UT ns hs 0 _ hlen];split<;>rfl) (by rw[UT ns hs 0 _ hlen];by_cases hm:(at' l i).s∈ns<;>simp[hm]) ?_
 refine AB U (A0 U) (by simp only[zb]<;>omega) (λ hb1=>?_) (λ hb1=>?_)<;>simp only[zb]at hb1
 ·rw[if_pos hb1]at hB
  exact F7 [0] U (A0 U) (by omega) U Tryz.call42 U (A0 U) U (λ w M hS hF=>HP (at' l i) 1 hS) λ a w M hs hS hle=>E5 _ (hB.p ⟨M,rfl,hS.drop _ IB,hle⟩ a hs)
 rw[if_neg (by
    rintro(⟨q1,q2⟩|q);· exact hb1.1.elim q1 q2
    ·exact hb1.2 q)]at hB
 have hi1:i+1<len l:=ok.last i h0 h1 λ e=>by rw[e]at hb1;exact absurd hb1.1 (by decide)
 refine BO [0] [] (λ _ (_:Unit)=>.tu []) (λ _ j _=>[(0,AS b v j d)]) hB U (A0 U) (by simp only[zb]<;>omega) U Tryz.call97 U U (A0 U) U IB (λ w M hS hF=>OX [58] hS (hF.get (k:=0) U).sl (by omega) hi1 (by omega)) (λ _ _=>rfl) (λ _ _ _=>rfl) λ _ k hk hB _ _=>?_
 obtain⟨rfl,hk1,_⟩:=DS ok (by omega) hi1 hk
 refine KN [4,5] 3 (λ _ _ _ _ _ h=>h) U (A0 U) (by omega) EV (by decide+kernel) ?_
 refine CS 4 U (A0 U) (by omega) U U ?_
 refine BO [0] [] (λ _ (h:AO)=>.sl 7 h.v) (λ x j h=>[(0,AS b v j d),(7,C2 h.v x.flat)]) hB U (A0 U) (by omega) U Tryz.call40 U U (A0 U) U IB (λ w M hS hF=>H.rd ⟨hS,(hF.get (k:=0) U).sl,hg,ok,by omega,hk1⟩ hd0 hd (by omega) trivial) (λ _ _=>rfl) (λ _ _ _=>rfl) λ x m hx hB h7 _=>?_
 refine FW 7 U ?_
 refine CE U (A0 U) (by omega) ?_
 refine CS 5 U (A0 U) (by omega) U U ?_
 have hst:=xI (x:=h7) hlen hb1.2
 refine RM false 2 (D7 (ns++[(at' l i).s]) (hs++[h7]) 0) (ns++[(at' l i).s]).length U (A0 U) (by omega) U U U (A0 U) U Tryz.underlying148 Tryz.underlying9 hst.1 hst.2 ?_
 refine CE U (A0 U) (by omega) ?_
 refine HQ U (A0 U) (by omega) U U ?_
 exact QI hB U U (A0 U) (by omega) λ w M' hX=>⟨h7,M',rfl,trivial,hX.le,hX.C5 [0,2] U,C0 (hX.f.get (k:=7) U) AA⟩
abbrev RO(b3:Nat)(o:Int):HX:=.box b3 [I 2,I 0,.v (str []),.v (str []),I o,I 0,I 0,.v (str []),.v (str []),.v (.bool false),I 0] 48
abbrev N5(hs:List AO)(gs:List Tf):Kn:=IC hs (gs.map Tf.flat)
theorem jG{rt:Tf->Bool}{f:Nat}{l:List Tk}{d j:Int}{ns:List A1}{xs:List Tf}(h:xs.map (λ x=>x.t.name)=ns):
   (if(at' l j).kind≠2/\(at' l j).kind≠4\/(at' l j).s∈xs.map (λ x=>x.t.name)then B8 l j 1
    else(AR l (j+1) [58]).bind λ _ k=>(AP A4 rt f l d k).bind λ x m=>D1 A4 rt f l d (xs++[x.named (at' l j).s]) m)=(N4 rt f l d ns j).bind λ q m=>D1 A4 rt f l d (xs++[q.2.named q.1]) m:=by
 rw[h]
 unfold N4
 split
 ·rfl
 ·rw[PR.assoc]
  refine PR.congr λ _ k=>?_
  rw[PR.assoc];rfl
theorem yD{rt:Tf->Bool}{f:Nat}{l:List Tk}(ok:C6 l){d i m:Int}{ns:List A1}{n:A1}{x:Tf}(h0:0<=i)(h1:i<len l)(h:N4 rt f l d ns i= .ok (n,x) m):KQ l (i+2) x m/\n ∉ ns/\len n<=1048576:=by
 unfold N4 at h
 split at h
 ·exact(CO h).elim
 ·rename_i hc
  have hi1:i+1<len l:=ok.last i h0 h1 λ e=>hc (.inl (by rw[e];decide))
  obtain⟨_,k,h2,h3⟩:=BA h
  obtain⟨rfl,h4,_⟩:=DS ok (by omega) hi1 h2
  obtain⟨y,m',h5,h6⟩:=BA h3
  cases h6
  have:=(IG rt ok f).ty _ _ _ _ (by omega) h4 h5
  rw[show i+1+1=i+2 by omega]at this
  exact⟨this,λ q=>hc (.inr q),ok.bd _ (at_mem h0 h1)⟩
def jH(rt:Tf->Bool)(f:Nat)(l:List Tk)(d i:Int):PR Tf:=(C9 l d i [123]).bind λ _ j=>D1 A4 rt f l (d+1) [] j
theorem yE{rt:Tf->Bool}{f:Nat}(H: ∀g,g<=f->HU rt g):LV 1 64 (jH rt f) f PB:=by
 intro w0 wv M0 M Rs b v l i d h hd0 hd hf _
 obtain⟨hS,hl,hg,ok,h0,h1⟩:=h
 have hfew:=ok.few
 refine B3 (Hr:=Rs) AX Tryz.func64 U Tryz.ntmps64 [(0,kn v 9 l Tk.cells)] [(0,AS b v i d)] [.bx 0 b 0] U hS (fc 0 hl (λ _=>rfl) AA) (λ B hB=>?_) U
 refine BO [0] [] (λ _ (_:Unit)=>.tu []) (λ _ j _=>[(0,AS b v j (d+1))]) hB U (A0 U) (by omega) U Tryz.call95 U U (A0 U) U (List.Sublist.refl _) (λ w M hS hF=>MZ [123] ⟨hS,(hF.get (k:=0) U).sl,hg,ok,h0,h1⟩ ⟨hd0,hd⟩) (λ _ _=>rfl) (λ _ _ _=>rfl) λ _ k hk hB _ _=>?_
 obtain⟨rfl,hk1,hd2,_⟩:=E6 ok h0 h1 hk
 generalize hR:D1 A4 rt f l (d+1) [] (i+1)=R at hB
 refine CL 3 U (A0 U) (by omega) Tryz.zeroValue48 U λ b3=>?_
 refine iS 4 U (A0 U) (by omega) U λ mb=>?_
 refine I4 8 (N5 [] []) (λ w M hX=>⟨Sl.nil M 1,DN,trivial⟩) ?_
 refine iD (σ:=Int×List A1×List AO×List Tf×Bool×Nat) 1 (λ s=> ∃(o j:Int) (ns:List A1) (hs:List AO) (gs:List Tf),i<j/\j<len l/\ns.length=hs.length/\ns.length=gs.length/\ns.Nodup/\F2 (i+1) j (DL ns gs)/\len ns<=j-i/\R=((AR l j [125]).bind λ _ m=>.ok (H3 o (DL ns gs)) m)/\
     s=⟨[(0,kn v 9 l Tk.cells),(8,N5 hs gs)],[(0,AS b v j (d+1)),(3,RO b3 o),(4,.ho (KS mb ns hs))],[Z 0 (.bx 0 b 0),Z 3 (.bx 3 b3 0),Z 4 (.v (.map (some mb)))]⟩)
   (λ(j,ns,hs,gs,fi,q)=>⟨[(0,kn v 9 l Tk.cells),(8,N5 hs gs)],[(0,AS b v j (d+1)),(3,RO b3 0),(4,.ho (KS mb ns hs))],[Z 0 (.bx 0 b 0),Z 3 (.bx 3 b3 0),Z 4 (.v (.map (some mb))),Z 5 (.v (.bool fi))]⟩)
   (λ(j,ns,hs,gs,fi,q)=>i<j/\j<len l/\ns.length=hs.length/\ns.length=gs.length/\ns.Nodup/\F2 (i+1) j (DL ns gs)/\len ns<=j-i/\(DL ns gs).isEmpty=fi/\4*(len l-j)+1<=(q:Int)/\q<=f/\D1 A4 rt q l (d+1) (DL ns gs) j=R) (λ(j,ns,hs,gs,fi,q)=>(len l-j).toNat) (i+1,[],[],[],true,f) U (A0 U) (by omega) U U ⟨by omega,hk1,rfl,rfl,.nil,.nil _,by show(0:Int)<=_;omega,rfl,by omega,Nat.le_refl _,hR⟩ ?_ ?_
 ·rintro⟨j,ns,hs,gs,fi,q⟩ ⟨hj0,hj1,hl1,hl2,hnd,hgs,hnl,hfi,hq,hqf,hst⟩
  cases q with
  |zero=>exfalso;omega
  |succ q=>
  rw[D1]at hst
  refine CF [0] (.v (.bool (A9 l j [125]))) U (A0 U) (by omega) Tryz.call63 U U (A0 U) U (λ _ w M hS hF=>I9 [125] hS (hF.get (k:=0) U).sl (by omega) hj1) U ?_
  refine AB U (A0 U) (by omega) (λ hb1=>?_) (λ hb1=>?_)
  ·have hb:A9 l j [125]=false:=by simpa using hb1
   rw[if_neg (by rw[hb];decide)]at hst
   rw[<-hst]at hB
   refine HH 0 (λ s=> ∃j',j<=j'/\j'<len l/\4*(len l-j')<=(q:Int)/\R=(if A9 l j' [63]then
       if(DL ns gs).isEmpty&&A9 l (j'+1) [58]then(AP A4 rt q l (d+1) (j'+2)).bind λ x k=>(AR l k [125]).bind λ _ m=>.ok (.mk (AN 3) [x]) m
       else(AR l (j'+1) [125]).bind λ _ m=>.ok (H3 1 (DL ns gs)) m
      else(N4 rt q l (d+1) ns j').bind λ q' m=>D1 A4 rt q l (d+1) (DL ns gs++[q'.2.named q'.1]) m)/\s=⟨[(0,kn v 9 l Tk.cells),(8,N5 hs gs)],[(0,AS b v j' (d+1)),(3,RO b3 0),(4,.ho (KS mb ns hs))],[Z 0 (.bx 0 b 0),Z 3 (.bx 3 b3 0),Z 4 (.v (.map (some mb))),Z 5 (.v (.bool fi))]⟩) U (A0 U) (by omega) U (λ hb2=>?_) (λ hb2=>?_) ?_
   ·have hf2:fi=false:=by simpa using hb2
    rw[hfi,hf2,if_neg (by decide)]at hB hst
    refine BO [0] [] (λ _ (_:Unit)=>.tu []) (λ _ j _=>[(0,AS b v j (d+1))]) hB U (A0 U) (by omega) U Tryz.call97 U U (A0 U) U IB (λ w M hS hF=>OX [44] hS (hF.get (k:=0) U).sl (by omega) hj1 (by omega)) (λ _ _=>rfl) (λ _ _ _=>rfl) λ _ k hk hB _ _=>?_
    obtain⟨rfl,hk1,_⟩:=DS ok (by omega) hj1 hk
    rw[hk,PR.HS,jG (US hl2)]at hst
    exact BF _ U (A0 U) (by omega) U ⟨j+1,by omega,hk1,by omega,by rw[hfi,hf2];exact hst.symm,rfl⟩
   ·have hf2:fi=true:=by simpa using hb2
    rw[hfi,hf2,if_pos U,PR.HS,jG (US hl2)]at hst
    exact BF _ U (A0 U) (by omega) U ⟨j,by omega,hj1,by omega,by rw[hfi,hf2];exact hst.symm,rfl⟩
   rintro s ⟨j',hjj,hj2,hq2,hR2,rfl⟩
   rw[hst,hR2]at hB
   refine CF [0] (.v (.bool (A9 l j' [63]))) U (A0 U) (by omega) Tryz.call63 U U (A0 U) U (λ _ w M hS hF=>I9 [63] hS (hF.get (k:=0) U).sl (by omega) hj2) U ?_
   refine AB U (A0 U) (by omega) (λ hb3=>?_) (λ hb3=>?_)
   ·have hb4:A9 l j' [63]=false:=by simpa using hb3
    rw[if_neg (by rw[hb4];decide)]at hB hR2
    refine BO [0,4] [7] (λ(_:A1×Tf) (h:AO)=>.tu []) (λ(q':A1×Tf) j h=>[(0,AS b v j (d+1)),(4,.ho (KS mb (ns++[q'.1]) (hs++[h])))]) (Fg:=λ(q':A1×Tf) (_:Int) (h:AO)=>[(7,BS h.v q'.2.flat)]) hB U (A0 U) (by omega) U Tryz.call98 U U (A0 U) U (List.sublist_cons_self _ _) (λ w M hS hF=>yC (H q (by omega)) hS (hF.get (k:=0) U).sl hg ok (by omega) hj2 hl1 (by omega) (by omega) (by omega)) (λ _ _=>rfl) (λ _ _ _=>rfl) λ q' m hq' hB h7 _=>?_
    obtain⟨gx,hnew,hnm⟩:=yD ok (by omega) hj2 hq'
    have hlt:=gx.lt
    have hle:=gx.le
    rw[hq',PR.HS]at hR2
    refine I4 8 (N5 (hs++[h7]) (gs++[q'.2])) (λ w M hX=>⟨Sl.nil M 1,DN,by show CK M 11 Tm.cells (hs++[h7]) ((gs++[q'.2]).map Tf.flat);rw[List.map_append];exact CK.snoc (hX.sl 7 U) (hX.f.get (k:=8) U).more⟩) ?_
    exact DO (m,ns++[q'.1],hs++[h7],gs++[q'.2],false,q) rfl (A0 rfl) (by omega) rfl ⟨by omega,hle,by simp[hl1],by simp[hl2],List.nodup_append.2 ⟨hnd,by simp,λ a ha b hb e=>by rw[List.mem_singleton.1 hb]at e;subst e;exact hnew ha⟩,by
      rw[ZB hl2];exact(hgs.mono (j:=j'+2) (by omega)).j5 gx hnm,by rw[AG];show len ns+1<=_;omega,by rw[ZB hl2];simp,by omega,by omega,by rw[ZB hl2];exact hR2.symm⟩ (by show Int.toNat _<Int.toNat _;omega)
   ·have hb4:A9 l j' [63]=true:=by simpa using hb3
    rw[if_pos hb4]at hB hR2
    have hj3:=DW ok (by omega) hj2 hb4
    refine CF [0] (.v (.bool (A9 l (j'+1) [58]))) U (A0 U) (by simp only[zb]<;>omega) Tryz.call63 U U (A0 U) U (λ _ w M hS hF=>I9 [58] hS (hF.get (k:=0) U).sl (by omega) hj3) U ?_
    rw[hfi]at hB hR2
    refine AB U (A0 U) (by simp only[zb]<;>omega) (λ hb5=>?_) (λ hb5=>?_)
    ·rw[if_pos hb5]at hB
     have hb6:A9 l (j'+1) [58]=true:=by rw[Bool.and_eq_true]at hb5;exact hb5.2
     have hj4:=DW ok (by omega) hj3 hb6
     have e2:j'+2=j'+1+1:=by omega
     rw[e2]at hB
     refine BO [0] [] (λ _ (h:AO)=>.sl 7 h.v) (λ x j h=>[(0,AS b v j (d+1)),(7,C2 h.v x.flat)]) hB U (A0 U) (by simp only[zb]<;>omega) U Tryz.call40 U U (A0 U) U IB (λ w M hS hF=>(H q (by omega)).rd ⟨hS,(hF.get (k:=0) U).sl,hg,ok,by omega,hj4⟩ (by omega) (by omega) (by omega) trivial) (λ _ _=>rfl) (λ _ _ _=>rfl) λ x m hx hB h7 _=>?_
     have gx:=(IG rt ok q).ty _ _ _ _ (by omega) hj4 hx
     have hlt:=gx.lt
     have hsz:=gx.size
     have hle:=gx.le
     refine BO [0] [] (λ _ (_:Unit)=>.tu []) (λ _ j _=>[(0,AS b v j d)]) hB U (A0 U) (by omega) U Tryz.call96 U U (A0 U) U fD (λ w M hS hF=>N1 [125] ⟨hS,(hF.get (k:=0) U).sl,hg,ok,by omega,hle⟩ (by omega) (by omega)) (λ _ _=>rfl) (λ _ _ _=>rfl) λ _ n hn hB _ _=>?_
     refine FW 7 U ?_
     refine EN 9 [h7] DB 1 36 EX U (A0 U) (by omega) U (A0 U) (λ w=>by kernel_rfl) U λ v9=>?_
     refine B9 [] (λ h:AO=>.sl 10 h.v) [] (λ u=>[(10,C2 u.v (Tf.mk (AN 3) [x]).flat)]) U (A0 U) (by omega) U Tryz.call99 U U (A0 U) U (λ w M hS hF=>UU (AN 3) v9 h7 x hS (hF.get (k:=9) U).sl (hF.get (k:=7) U).sl (by omega)) (λ _=>rfl) (λ _=>rfl) λ h10 _=>?_
     exact AH hB U U (A0 U) (by omega) U (A0 U) λ w M' hX=>⟨h10,M',rfl,trivial,hX.le,hX.C5 [0,10] U,AA⟩
    ·rw[if_neg (by rw[hb5];decide)]at hR2
     exact BF _ U (A0 U) (by simp only[zb]<;>omega) U ⟨1,j'+1,ns,hs,gs,by omega,hj3,hl1,hl2,hnd,hgs.mono (by omega),by omega,hR2,rfl⟩
  ·have hb:A9 l j [125]=true:=by simpa using hb1
   rw[if_pos hb]at hst
   exact BF _ U (A0 U) (by omega) U ⟨0,j,ns,hs,gs,hj0,hj1,hl1,hl2,hnd,hgs,hnl,by rw[<-hst];unfold AR;rw[if_pos hb];rfl,rfl⟩
 rintro s ⟨o,j,ns,hs,gs,hj0,hj1,hl1,hl2,hnd,hgs,hnl,hRR,rfl⟩
 rw[hRR]at hB
 have hnl0:=A8 ns
 have hsz:=hgs.size
 have hgl:len (DL ns gs)=len ns:=by have:=congrArg List.length (US hl2);rw[List.length_map]at this;unfold len;omega
 refine BO [0] [] (λ _ (_:Unit)=>.tu []) (λ _ j _=>[(0,AS b v j d)]) hB U (A0 U) (by omega) U Tryz.call96 U U (A0 U) U IB (λ w M hS hF=>N1 [125] ⟨hS,(hF.get (k:=0) U).sl,hg,ok,by omega,hj1⟩ (by omega) (by omega)) (λ _ _=>rfl) (λ _ _ _=>rfl) λ _ n hn hB _ _=>?_
 refine CH U (A0 U) (by omega) ?_
 refine qM 7 7 9 1 AW DN U ?_
 refine y9 4 9 U (A0 U) (by omega) U (A0 U) U Tryz.underlying148 U λ r=>?_
 obtain⟨hborn,hbnd⟩:=xJ (hs:=hs) hl1
 refine EA (σ:=Array Nat×List SV×Value×List A1) (λ(sn,vs,u,nm)=>⟨[(0,kn v 9 l Tk.cells),(8,N5 hs gs)],[(0,AS b v n d),(3,RO b3 o),(4,.ho (KS mb ns hs)),(9,.ho (.raw r (.mapIter (some mb) ns.length sn ns.length))),(7,.pv 9 (kn u 1 nm AW) DN)],[Z 3 (.bx 3 b3 0),Z 4 (.v (.map (some mb))),Z 7 (.sl 7 u),Z 60 (.v (.pointer (some ⟨r,0,none⟩)))]⟩)
   (λ(sn,vs,u,nm)=>JD (D7 ns hs 0) sn vs/\nm=vs.map (·.key)) (λ(sn,vs,u,nm)=>(D7 ns hs 0).length-vs.length) (#[],[],.slice none 0 0,[]) U (A0 U) (by omega) U ⟨JD.nil _,rfl⟩ ?_
 rintro⟨sn,vs,u,nm⟩ ⟨hse,hnm⟩
 have hvl:=hse.le
 have hsl:(D7 ns hs 0).length=ns.length:=by have:=congrArg List.length (ZC ns hs 0 hl1);rwa [List.length_map]at this
 have hvk:len nm<=len ns:=by rw[hnm];unfold len;rw[List.length_map];omega
 have hnm0:=A8 nm
 refine yA 4 9 U (A0 U) (by omega) U (A0 U) U U hborn (Nat.le_refl _) U (λ p hp hns=>?_) (λ hall=>?_)
 ·refine AB rfl (A0 rfl) (by omega) (λ hb1=>?_) (λ hb1=>by cases hb1)
  refine yB 4 9 p U (A0 U) (by omega) U U (A0 U) U U hp hbnd ?_
  refine EN 10 [p.key] AW 1 9 DN U (A0 U) (by omega) U (A0 U) (λ w=>by kernel_rfl) U λ v10=>?_
  refine KB 16 U (A0 U) (by omega) U (A0 U) U Tryz.underlying32 Tryz.type9 U U bF (by simp only[AK,len_nil];omega) λ u'=>?_
  have hse':=hse.push hp hns
  have hle':=hse'.le
  rw[List.length_append]at hle'
  exact DO (sn.push p.born,vs++[p],u',nm++[p.key]) U (A0 U) (by omega) U ⟨hse',by rw[hnm,List.map_append];rfl⟩ (by show _-(vs++[p]).length<_-vs.length;rw[List.length_append];simp only[List.length_cons,List.length_nil]at*;omega)
 have hperm:=hse.all hbnd hall
 have hsn:BC nm=BC ns:=by rw[hnm];exact xK hl1 hperm
 have hsnl:=xD ns
 have hmem: ∀ {x:A1},x∈BC ns->x∈ns:=λ h=>xC.1 h
 have hix: ∀ {k:Int},0<=k->k<len (BC ns)->0<=E7 ns (at' (BC ns) k)/\E7 ns (at' (BC ns) k)<len ns:=λ h0 h1=>xG (hmem (at_mem h0 h1))
 refine AB rfl (A0 rfl) (by omega) (λ hb1=>by cases hb1) (λ _=>?_)
 refine B9 [7] (λ _:Unit=>.tu []) [] (λ _=>[(7,.pv 9 (kn u 1 (BC ns) AW) DN)]) U (A0 U) (by omega) U Tryz.call100 U U (A0 U) U (λ w M hS hF=>by have:=y8 u nm hS (by omega);rw[hsn]at this;exact this) (λ _=>rfl) (λ _=>rfl) λ _ _=>?_
 refine FW 7 U ?_
 refine CH U (A0 U) (by omega) ?_
 refine QF 6 9 36 1 DB EX U ?_
 refine I4 18 (IC [] []) (λ w M hX=>⟨Sl.nil M 1,DN,trivial⟩) ?_
 refine EA (σ:=Int×Value×List AO×List Fl) (λ(k,u9,hs',rs)=>⟨[(8,N5 hs gs),(7,kn u 1 (BC ns) AW),(6,kn u9 1 hs' DB),(18,IC hs' rs)],[(0,AS b v n d),(3,RO b3 o),(4,.ho (KS mb ns hs)),(6,.ho (.own 36 1 u9 hs'.length (hs'.flatMap DB)))],[Z 3 (.bx 3 b3 0),Z 4 (.v (.map (some mb))),Z 7 (.sl 7 u),Z 9 (.sl 6 u9),Z 71 (.sl 7 u),Z 72 (I (len (BC ns))),Z 73 (I k)]⟩)
   (λ(k,u9,hs',rs)=>0<=k/\k<=len (BC ns)/\rs=(Eng.sub (BC ns) 0 k).map (λ x=>(at' gs (E7 ns x)).flat)/\len hs'=k) (λ(k,u9,hs',rs)=>(len (BC ns)-k).toNat) (0,.slice none 0 0,[],[]) U (A0 U) (by omega) U ⟨by omega,by omega,rfl,rfl⟩ ?_
 rintro⟨k,u9,hs',rs⟩ ⟨hk0,hk1,hrs,hhl⟩
 refine AB U (A0 U) (by omega) (λ hb2=>?_) (λ hb2=>?_)<;>simp only[zb]at hb2
 ·obtain⟨q0,q1⟩:=hix hk0 hb2
  have hin:=hmem (at_mem hk0 hb2)
  refine xB 4 U (A0 U) (by omega) U U (A0 U) U Tryz.underlying148 Tryz.underlying9 Tryz.zeroValue36 (v:=(at' hs (E7 ns (at' (BC ns) k))).v) (by rw[UT ns hs 0 _ hl1,if_pos hin];rfl) ?_
  refine EN 10 [at' hs (E7 ns (at' (BC ns) k))] DB 1 36 EX U (A0 U) (by omega) U (A0 U) (λ w=>by kernel_rfl) U λ v10=>?_
  refine O9 24 U (A0 U) (by omega) U (A0 U) U Tryz.underlying43 Tryz.type36 U U Y4 (by simp only[AK,len_nil];omega) λ v'=>?_
  refine I4 18 (IC (hs'++[at' hs (E7 ns (at' (BC ns) k))]) (rs++[(at' gs (E7 ns (at' (BC ns) k))).flat])) (λ w M hX=>⟨Sl.nil M 1,DN,by
    refine CK.snoc ?_ (hX.f.get (k:=18) U).more
    have:=CK.at (k:=E7 ns (at' (BC ns) k)) (hX.f.get (k:=8) U).more q0 (by unfold len at*;omega)
    rwa [fC _ _ q0 (by unfold len at*;omega)]at this⟩) ?_
  exact DO (k+1,v',hs'++[at' hs (E7 ns (at' (BC ns) k))],rs++[(at' gs (E7 ns (at' (BC ns) k))).flat]) U (A0 U) (by omega) U ⟨by omega,by omega,by rw[hrs,OZ hk0 hb2,List.map_append];rfl,by rw[AG];show len hs'+1=_;omega⟩ (by show Int.toNat _<Int.toNat _;omega)
 rw[LP (by omega)]at hrs
 have hob:=xM hl2 hnd
 rw[<-hrs]at hob
 have hfl:len (E8 (BC ns) rs).flatten=len (AL (DL ns gs)):=by
  rw[hob,<-P1];have:=(ZG (N3 (DL ns gs))).length_eq;unfold len;omega
 have hfl2:=ZD (BC ns) rs
 have hrl:len rs=len (LN (DL ns gs)):=by
  have:=congrArg len hob
  rw[j3]at this
  rw[this];unfold len;rw[List.length_map]
 have e:({ AN 2 with n:=o,many:=len rs}::(E8 (BC ns) rs).flatten:Fl)=(H3 o (DL ns gs)).flat:=by
  unfold H3
  rw[Tf.R6,hob,hrl]
 have hrl2:=j3 (BC ns) rs
 have hsp:len (LN (DL ns gs))=len (DL ns gs):=by have:=(N3 (DL ns gs)).length_eq;unfold len;omega
 refine B9 [] (λ h:AO=>.sl 10 h.v) [] (λ h=>[(10,C2 h.v (H3 o (DL ns gs)).flat)]) U (A0 U) (by omega) U Tryz.call99 U U (A0 U) U (λ w M hS hF=>by
   have:=ZF { AN 2 with n:=o} u (BC ns) u9 hs' rs hS (hF.get (k:=7) rfl).sl ⟨(hF.get (k:=6) rfl).sl,EX,(hF.get (k:=18) rfl).more⟩ (λ y hy=>by rw[hrs]at hy;obtain⟨z,_,rfl⟩:=List.mem_map.1 hy;exact Tf.P0 _) (by omega) (by omega)
   rw[<-e];exact this) (λ _=>rfl) (λ _=>rfl) λ h10 _=>?_
 exact AH hB U U (A0 U) (by omega) U (A0 U) λ w M' hX=>⟨h10,M',rfl,trivial,hX.le,hX.C5 [0,10] U,AA⟩
end Go.Proofs.YtmjpjbmeamnfpaaGreatDoor
