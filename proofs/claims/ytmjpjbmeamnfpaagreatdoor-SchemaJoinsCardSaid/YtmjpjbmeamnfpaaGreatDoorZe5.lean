/-
  Parts Card Xe Xf EngR, put together and made short by wip/py/merge.py (mini.py).
-/
import Derived.Test.YtmjpjbmeamnfpaaGreatDoorCards
import Derived.Test.YtmjpjbmeamnfpaaGreatDoorTie
import Derived.Test.YtmjpjbmeamnfpaaGreatDoorZe4
import Derived.WalkKit
import Derived.ProofKit
import Derived.OpenShut
import Derived.Deep.DeepHandedRow
import Derived.Deep.DeepWitnessRowRef
import Derived.Lib.LaidTab
import Derived.Lib.LaidU8T
import Derived.Lib.LaidIn
import Derived.Lib.TrailingZeros
import Derived.Stop.LaidErr
import Derived.ChangeBears2
import Derived.Test.YtmjpjbmeamnfpaaGreatDoorZe0
set_option linter.unusedVariables false
set_option linter.unusedSimpArgs false
namespace Go.Proofs.YtmjpjbmeamnfpaaGreatDoor
open Go.ChangeShapes Go.WideShapes Go.ChangeAt Go.RowKit Go.Eng
theorem own:ownKnob Tryz.prog.godebug=none:=by kernel_rfl
abbrev Laid:List (String×DataW Unit):=[("math/bits.deBruijn32tab",Rows.laid_math_bits_deBruijn32tab),("math/bits.deBruijn64tab",Rows.laid_math_bits_deBruijn64tab),("internal/strconv.uint64pow10",Rows.laid_internal_strconv_uint64pow10),("unicode/utf8.acceptRanges",Rows.laid_unicode_utf8_acceptRanges),("strconv.ErrRange",Rows.laid_strconv_ErrRange),("strconv.ErrSyntax",Rows.laid_strconv_ErrSyntax),("unicode.White_Space",Rows.laid_unicode_White_Space),("strings.asciiSpace",Rows.laid_strings_asciiSpace),("unicode/utf8.first",Rows.laid_unicode_utf8_first)]
theorem WD{P:Program}{W:World}{name:String}{k:IntKind}{zs:List Int}{g:Nat}{t e:TypeId}{n:Nat}
  (hg:P.globalNamed name=some g) (hty:(P.globals[g]?).map (·.type)=some t) (ht:P.underlying t=some (.array n e)) (he:P.underlying e=some (.int k)) (hce:P.cellsOf e=1) (hct:P.cellsOf t=n)
  (h:Lib.VarReads P W name (Lib.tabData k zs)):Lib.TabIs P W name k zs:=by
 obtain⟨g',t',cs,fuel,p,hg',ht',hvar,hd⟩:=h
 obtain rfl:=Option.some.inj (hg.symm.trans hg')
 obtain rfl:=Option.some.inj (hty.symm.trans ht')
 unfold Lib.TabIs
 rw[hvar,<-Lib.cells_of_tab ht he hce hct hd]
theorem bZ{P:Program}{W:World}{name:String}{k:IntKind}{zs:List Int}{g:Nat}(h:Lib.TabIs P W name k zs)(hg:P.globalNamed name=some g)(h0:0<zs.length):g<W.heap.size:=lt_of_cell (h.cell hg 0 h0)
theorem oU:U8Extra Tryz.prog Tryz.aR:=⟨by kernel_rfl,by kernel_rfl,by kernel_rfl,by kernel_rfl,by kernel_rfl,by kernel_rfl,by kernel_rfl⟩
theorem e1:(Rows.laid_strings_asciiSpace:DataW Unit)=Lib.tabData .u8 Lib.asciiSpaceTab:=by kernel_rfl
theorem e2:(Rows.laid_internal_strconv_uint64pow10:DataW Unit)=Lib.tabData .u64 Lib.pow10Tab:=by kernel_rfl
theorem e3:(Rows.laid_unicode_utf8_first:DataW Unit)=Lib.firstData:=by kernel_rfl
theorem e4:(Rows.laid_unicode_utf8_acceptRanges:DataW Unit)=Lib.acceptData:=by kernel_rfl
abbrev cA:List Int:=Lib.deBruijn64tab.map (λ n:Nat=>(n:Int))
theorem e5:(Rows.laid_math_bits_deBruijn64tab:DataW Unit)=Lib.tabData .u8 cA:=by kernel_rfl
theorem cB:"*"++"errors.errorString"="*errors.errorString":=by decide
theorem oV(u:TypeId)(h:Tryz.prog.typeName? 3 u=some "*errors.errorString"):u=305:=
 typeName_ptr_named (nm:="errors.errorString") (by rw[cB];kernel_rfl) (by kernel_rfl) (by decide) u (by rw[cB];exact h)
theorem oW{W:World}(h:laidMet Tryz.prog Laid W):Gl W:=by
 have r1:=Lib.laidMet.reads h (show("strings.asciiSpace",Rows.laid_strings_asciiSpace)∈Laid from .tail _ (.tail _ (.tail _ (.tail _ (.tail _ (.tail _ (.tail _ (.head _))))))))
 have r2:=Lib.laidMet.reads h (show("internal/strconv.uint64pow10",Rows.laid_internal_strconv_uint64pow10)∈Laid from .tail _ (.tail _ (.head _)))
 have r3:=Lib.laidMet.reads h (show("unicode/utf8.first",Rows.laid_unicode_utf8_first)∈Laid from .tail _ (.tail _ (.tail _ (.tail _ (.tail _ (.tail _ (.tail _ (.tail _ (.head _)))))))))
 have r4:=Lib.laidMet.reads h (show("unicode/utf8.acceptRanges",Rows.laid_unicode_utf8_acceptRanges)∈Laid from .tail _ (.tail _ (.tail _ (.head _))))
 rw[e1]at r1
 rw[e2]at r2
 rw[e3]at r3
 rw[e4]at r4
 have h1:Lib.TabIs Tryz.prog W "strings.asciiSpace" .u8 Lib.asciiSpaceTab:=
  WD (g:=0) (by kernel_rfl) (by kernel_rfl) Tryz.underlying203 Tryz.underlying5 (by kernel_rfl) (by kernel_rfl) r1
 have h2:Lib.TabIs Tryz.prog W "internal/strconv.uint64pow10" .u64 Lib.pow10Tab:=
  WD (g:=7) (by kernel_rfl) (by kernel_rfl) Tryz.underlying330 Tryz.underlying230 (by kernel_rfl) (by kernel_rfl) r2
 have h3:Lib.Utf8Tabs 1 2 W:=utf8Tabs_of_readsT (.of260 Tryz.mP) oU r3 r4
 refine⟨⟨bZ h1 (by kernel_rfl) (of_decide_eq_true (by kernel_rfl)),bZ h2 (by kernel_rfl) (of_decide_eq_true (by kernel_rfl))⟩,h3,h1,h2,?_,?_⟩
 ·have r5:=Lib.laidMet.reads h (show("math/bits.deBruijn64tab",Rows.laid_math_bits_deBruijn64tab)∈Laid from .tail _ (.head _))
  rw[e5]at r5
  have h5:Lib.TabIs Tryz.prog W "math/bits.deBruijn64tab" .u8 cA:=WD (g:=9) (by kernel_rfl) (by kernel_rfl) Tryz.underlying340 Tryz.underlying5 (by kernel_rfl) (by kernel_rfl) r5
  exact h5.cell (by kernel_rfl) 15 (of_decide_eq_true (by kernel_rfl))
 ·obtain⟨a,s,hv,_⟩:=laid_sentinel (te:=307) (ts:=9) (f:=(Tryz.prog.fieldsOf 307)[0]!) h.tail.tail.tail.tail.tail (show Tryz.prog.globalNamed "strconv.ErrSyntax"=some 5 by kernel_rfl) (by kernel_rfl) Tryz.underlying166 oV Tryz.underlying305 (by kernel_rfl) (by kernel_rfl) (by kernel_rfl) Tryz.underlying9 (by kernel_rfl) (by kernel_rfl)
  exact⟨_,var?_cell (by kernel_rfl) hv 0,.inr ⟨_,_,rfl⟩⟩
def lits(l:List (DataW Unit)):List Value:=l.filterMap λ | .lit (.int k z)=>some (.int k z)|_=>none
def partsOf:DataW Unit->List (DataW Unit)| .agg ps=>ps|_=>[]
def PY(d:DataW Unit):Array Value:=(lits (partsOf d)).toArray
def cC(l:List (DataW Unit)):Array Value:=(l.flatMap λ p=>lits (partsOf p)).toArray
def oX:List (DataW Unit):=match Rows.laid_unicode_White_Space with| .ptr (.agg (.slice rows _::_))=>rows|_=>[]
def cE:DataW Unit->A1| .iface _ (.ptr (.agg [.lit (.string s)]))=>s|_=>[]
noncomputable def WE (os:Os):World:=
 let N:=(World.settled Tryz.prog os).heap.size
 let w0:=World.holding Tryz.prog os ⟨#[.cells (cC oX) 280,.cells #[.slice (some ⟨N,0,none⟩) 7 7,.slice none 0 0,.int .i64 2] 277,.cells #[str (cE Rows.laid_strconv_ErrRange)] 307,.cells #[str (cE Rows.laid_strconv_ErrSyntax)] 307],#[],[]⟩
 let put (h:Array Obj) (g:Nat) (cs:Array Value):Array Obj:=h.modify g λ
  | .cells _ t frozen=>.cells cs t frozen
  |o=>o
 let h1:=put w0.heap 8 (PY Rows.laid_math_bits_deBruijn32tab)
 let h2:=put h1 9 (PY Rows.laid_math_bits_deBruijn64tab)
 let h3:=put h2 7 (PY Rows.laid_internal_strconv_uint64pow10)
 let h4:=put h3 2 (cC (partsOf Rows.laid_unicode_utf8_acceptRanges))
 let h5:=put h4 6 #[.iface 305 (.pointer (some ⟨N+2,0,none⟩))]
 let h6:=put h5 5 #[.iface 305 (.pointer (some ⟨N+3,0,none⟩))]
 let h7:=put h6 3 #[.pointer (some ⟨N+1,0,none⟩)]
 let h8:=put h7 0 (PY Rows.laid_strings_asciiSpace)
 let h9:=put h8 1 (PY Rows.laid_unicode_utf8_first)
 { w0 with heap:=h9}
noncomputable abbrev N0:Nat:=(World.settled Tryz.prog default).heap.size
set_option maxRecDepth 100000 in
theorem oY(os:Os)(args:Array Value):laidMet Tryz.prog Laid ((WE os).forCall (λ _ _=>0) ⟨#[],args,[]⟩).memory:=
 (LaidIn.of_run [8,9,7,2,6,N0+2,5,N0+3,3,N0+1,N0,0,1] 12 (by kernel_rfl) (by kernel_rfl) (by kernel_rfl) (by kernel_rfl)).met
end Go.Proofs.YtmjpjbmeamnfpaaGreatDoor
namespace Go.Eng
open Go.RowKit
structure Kn:Type 1 where
 {α:Type}
 [inh:Inhabited α]
 v:Value
 sz:Nat
 l:List α
 f:α->List Value
 g:Mem->Prop
 hg: ∀M M',M.le M'->g M->g M'
abbrev kn{α:Type}[Inhabited α](v:Value)(sz:Nat)(l:List α)(f:α->List Value):Kn:=⟨v,sz,l,f,λ _=>True,λ _ _ _ _=>trivial⟩
structure Kn.ok (M:Mem) (k:Kn):Prop where
 sl:Sl M k.sz k.l.length k.v (k.l.flatMap k.f)
 sz: ∀x,(k.f x).length=k.sz
 more:k.g M
theorem Kn.ok.mono {M M':Mem}{k:Kn}(h:k.ok M)(hm:M.le M'):k.ok M':=⟨h.sl.mono hm,h.sz,k.hg _ _ hm h.more⟩
inductive XV where
 |v (x:Value)
 |sl (k:Nat) (x:Value)
 |el (k:Nat) (x:Value) (sz:Nat) (i:Int) (j:Nat)
 |bx (k b o:Nat)
 |ag (cs:List XV)
 |tu (vs:List XV)
def XV.d0:XV->Value
 | .v x=>x
 | .sl _ x=>x
 | .el _ x sz i j=>.pointer (some ⟨sb x,so x+i.toNat*sz+j,none⟩)
 | .bx _ b o=>.pointer (some ⟨b,o,none⟩)
 |_=>undef
def XV.d1:XV->Value
 | .ag cs=>.agg (cs.map XV.d0).toArray
 |x=>x.d0
def XV.d:XV->Value
 | .tu vs=>.tuple (vs.map XV.d1).toArray
 |x=>x.d1
inductive Gd where
 |t
 |g (b:Bool)
def Gd.d:Gd->Bool
 | .t=>true
 | .g b=>b
abbrev XE:=List (Nat×Gd×XV)
def XE.d (L:XE):Env:=L.map λ x=>(x.1,x.2.1.d,x.2.2.d)
def B6:XE->Nat->Option (Gd×XV)
 |[],_=>none
 |(t,g,v)::L,k=>match Nat.beq t k with
  |true=>some (g,v)
  |false=>B6 L k
theorem FT: ∀ {L:XE} {k:Nat} {g:Gd} {v:XV},B6 L k=some (g,v)->look L.d k=some (g.d,v.d)
 |[],_,_,_,h=>by cases h
 |(t,g',v')::L,k,g,v,h=>by
  unfold B6 at h
  show look ((t,g'.d,v'.d)::XE.d L) k=_
  unfold look
  split at h<;>rename_i e<;>rw[e]
  ·cases h;rfl
  ·exact FT h
inductive Ck where
 |b (x y:Bool)
 |n (x y:Nat)
 |v (x y:Value)
def Ck.holds:Ck->Prop
 | .b x y=>x=true->y=true
 | .n x y=>x=y
 | .v x y=>x=y
def Ck.diag:Ck->Ck
 | .b x _=>.b x x
 | .n x _=>.n x x
 | .v x _=>.v x x
abbrev A6(E:List Ck):Prop:= ∀c∈E,c.holds
theorem A0{E:List Ck}(h:E.map Ck.diag=E):A6 E:=by
 intro c hc
 obtain⟨i,hi⟩:=List.getElem?_of_mem hc
 have h2:(E.map Ck.diag)[i]? =some c:=by rw[h];exact hi
 rw[List.getElem?_map,hi]at h2
 simp only[Option.map_some,Option.some.injEq]at h2
 cases c with
 |b x y=>simp only[Ck.diag,Ck.b.injEq,true_and]at h2;subst h2;exact id
 |n x y=>simp only[Ck.diag,Ck.n.injEq,true_and]at h2;subst h2;rfl
 |v x y=>simp only[Ck.diag,Ck.v.injEq,true_and]at h2;subst h2;rfl
inductive TK where
 |str|bool|int (k:IntKind)|row (e:TypeId) (esz:Nat)|st (fs:List (Nat×Nat×Bool)) (zs:List Value)|any
structure TD where
 k:TK
 sz:Nat
 agg:Bool
def JO(fs:List (Nat×Nat×Bool)):List Value->List (Nat×Value)->Option (List Value)
 |cs,[]=>some cs
 |cs,(i,v)::ps=>match fs[i]? with
  |some (off,n,_)=>if v.cells.toList.length=n/\off+n<=cs.length then JO fs (F4 cs off v.cells.toList) ps else none
  |none=>none
def TK.ok (P:Program)(t:TypeId)(sz:Nat):TK->Prop
 | .str=>P.underlying t=some .string
 | .bool=>P.underlying t=some .bool
 | .int k=>P.underlying t=some (.int k)
 | .row e esz=>P.underlying t=some (.slice e)/\ ∀w,(sizeOf e).run P w= .ok esz w
 | .st fs zs=>(∀(ps:List (Nat×Value)) (cs:List Value) w,JO fs zs ps=some cs->(Instr.build t ps.toArray).run P w= .ok (.agg cs.toArray) w)/\ ∀i off n g,fs[i]? =some (off,n,g)->
  (∀b o w,(Instr.fieldAt t (.pointer (some ⟨b,o,none⟩)) i).run P w= .ok (.pointer (some ⟨b,o+off,none⟩)) w)/\
  (∀(cs:List Value) w,cs.length=sz->off+n<=sz/\(Instr.field t (.agg cs.toArray) i).run P w= .ok (if g then .agg ((cs.drop off).take n).toArray else cs.getD off undef) w)
 | .any=>True
structure TD.ok (P:Program) (t:TypeId) (d:TD):Prop where
 agg: ∀w,(isAgg t).run P w= .ok d.agg w
 size: ∀w,(sizeOf t).run P w= .ok d.sz w
 kind:d.k.ok P t d.sz
abbrev TT:=List (Nat×TD)
def GD:TT->Nat->Option TD
 |[],_=>none
 |(t,d)::T,k=>match Nat.beq t k with
  |true=>some d
  |false=>GD T k
def IQ:List (Nat×Kn)->Nat->Option Kn
 |[],_=>none
 |(t,d)::F,k=>match Nat.beq t k with
  |true=>some d
  |false=>IQ F k
theorem cF: ∀ {F:List (Nat×Kn)} {k:Nat} {x:Kn},IQ F k=some x-> ∃i,(i,x)∈F
 |[],_,_,h=>by cases h
 |(t,d)::F,k,x,h=>by
  unfold IQ at h
  split at h
  ·cases h;exact⟨t,.head _⟩
  ·obtain⟨i,hi⟩:=cF h;exact⟨i,.tail _ hi⟩
inductive HX:Type 1 where
 |box (b:Nat) (cs:List XV) (t:TypeId)
 |pv (e:TypeId) (K:Kn) (h: ∀x,(K.f x).length=K.sz)
 |ho (x:HO)
def HX.d:HX->HO
 | .box b cs t=>.box b (cs.map XV.d0) t
 | .pv e (@Kn.mk α inh v sz l f _ _) _=>.priv e sz v l.length (l.flatMap f)
 | .ho x=>x
def F5:List (Nat×HX)->Nat->Option HX
 |[],_=>none
 |(t,d)::H,k=>match Nat.beq t k with
  |true=>some d
  |false=>F5 H k
def DH:List (Nat×HX)->Nat->HX->List (Nat×HX)
 |[],_,_=>[]
 |(t,d)::H,k,x=>match Nat.beq t k with
  |true=>(t,x)::H
  |false=>(t,d)::DH H k x
def HD(H:List (Nat×HX)):List HO:=H.map λ x=>x.2.d
theorem cG: ∀ {H:List (Nat×HX)} {k:Nat} {x:HX},F5 H k=some x-> ∃i:Nat,(HD H)[i]? =some x.d/\ ∀y,HD (DH H k y)=(HD H).set i y.d
 |[],_,_,h=>by cases h
 |(t,d)::H,k,x,h=>by
  unfold F5 at h
  split at h<;>rename_i e
  ·cases h
   refine⟨0,rfl,λ y=>?_⟩
   simp only[DH,e];rfl
  ·obtain⟨i,h1,h2⟩:=cG h
   refine⟨i+1,by simpa[HD]using h1,λ y=>?_⟩
   simp only[DH,e]
   show d.d::HD (DH H k y)=_
   rw[h2 y];rfl
def nth{α:Type}:List α->Nat->Option α
 |[],_=>none
 |x::_,0=>some x
 |_::l,n+1=>nth l n
theorem FU{α:Type}: ∀(l:List α) (n:Nat),nth l n=l[n]?
 |[],_=>by simp[nth]
 |_::_,0=>by simp[nth]
 |_::l,n+1=>by simp[nth,FU l n]
def I2{α:Type}:List α->Nat->Nat->Option (List α)
 |_,0,0=>some []
 |[],_,_=>none
 |x::l,0,n+1=>match I2 l 0 n with
  |some r=>some (x::r)
  |none=>none
 |_::l,o+1,n=>I2 l o n
theorem PZ{α:Type}: ∀(l:List α) (o n:Nat) (r:List α),I2 l o n=some r->r=(l.drop o).take n/\r.length=n/\o+n<=l.length
 |l,0,0,r,h=>by unfold I2 at h;cases h;simp
 |[],o+1,n,r,h=>by simp[I2]at h
 |[],0,n+1,r,h=>by simp[I2]at h
 |x::l,0,n+1,r,h=>by
  unfold I2 at h
  split at h
  ·rename_i r' hr
   cases h
   obtain⟨h1,h2,h3⟩:=PZ l 0 n r' hr
   refine⟨by rw[h1];simp,by simp[h2],by simp at h3 ⊢;omega⟩
  ·cases h
 |x::l,o+1,n,r,h=>by
  have h':I2 l o n=some r:=by unfold I2 at h;exact h
  obtain⟨h1,h2,h3⟩:=PZ l o n r h'
  exact⟨by rw[h1];simp,h2,by simp;omega⟩
def I3{α:Type}:List α->Nat->List α->Option (List α)
 |l,0,[]=>some l
 |[],_,_=>none
 |_::l,0,v::vs=>match I3 l 0 vs with
  |some r=>some (v::r)
  |none=>none
 |x::l,o+1,vs=>match I3 l o vs with
  |some r=>some (x::r)
  |none=>none
theorem put_eq{α:Type}: ∀(l:List α) (o:Nat) (vs r:List α),I3 l o vs=some r->r=l.take o++vs++l.drop (o+vs.length)/\o+vs.length<=l.length
 |l,0,[],r,h=>by unfold I3 at h;cases h;simp
 |[],o+1,vs,r,h=>by simp[I3]at h
 |[],0,v::vs,r,h=>by simp[I3]at h
 |x::l,0,v::vs,r,h=>by
  unfold I3 at h
  split at h
  ·rename_i r' hr
   cases h
   obtain⟨h1,h2⟩:=put_eq l 0 vs r' hr
   simp at h1 h2
   exact⟨by rw[h1];simp,by simp;omega⟩
  ·cases h
 |x::l,o+1,vs,r,h=>by
  unfold I3 at h
  split at h
  ·rename_i r' hr
   cases h
   obtain⟨h1,h2⟩:=put_eq l o vs r' hr
   refine⟨?_,by simp;omega⟩
   rw[h1,show o+1+vs.length=(o+vs.length)+1 from by omega];simp
  ·cases h
def HF:List Value->List XV
 |[]=>[]
 |x::l=>.v x::HF l
def NX:List Value->Option (List XV)
 |[]=>some []
 |x::l=>match NX l with
  |some r=>some (.v x::r)
  |none=>none
theorem T3: ∀(l:List Value) (r:List XV),NX l=some r->r.map XV.d0=l
 |[],r,h=>by cases h;rfl
 |x::l,r,h=>by
  unfold NX at h
  split at h
  ·rename_i r' hr;cases h;simp[T3 l r' hr,XV.d0]
  ·cases h
def BI(L:XE)(W:Gd):Operand->Option (XV×List Ck)
 | .tmp k=>match B6 L k with
  |some (.t,v)=>some (v,[])
  |some (.g b,v)=>match W with
   | .t=>some (v,[.b true b])
   | .g a=>some (v,[.b a b])
  |none=>none
 | .const v=>some (.v v,[])
 | .global k=>some (.v (.pointer (some ⟨k,0,none⟩)),[])
 | .func f=>some (.v (.func (.func f) #[] #[]),[])
theorem AT{L:XE}{W:Gd}{x:Operand}{v:XV}{E:List Ck}(h:BI L W x=some (v,E))(hE:A6 E):A5 L.d W.d x v.d:=by
 cases x with
 |tmp k=>
  simp only[BI]at h
  split at h
  ·rename_i v' e;simp only[Option.some.injEq,Prod.mk.injEq]at h;obtain⟨rfl,rfl⟩:=h;exact .t (FT e)
  ·rename_i b v' e
   cases W with
   |t=>simp only[Option.some.injEq,Prod.mk.injEq]at h;obtain⟨rfl,rfl⟩:=h;exact .g (FT e) (hE _ (.head _))
   |g a=>simp only[Option.some.injEq,Prod.mk.injEq]at h;obtain⟨rfl,rfl⟩:=h;exact .g (FT e) (hE _ (.head _))
  ·cases h
 |const v'=>simp only[BI,Option.some.injEq,Prod.mk.injEq]at h;obtain⟨rfl,rfl⟩:=h;exact .c
 |global k=>simp only[BI,Option.some.injEq,Prod.mk.injEq]at h;obtain⟨rfl,rfl⟩:=h;exact .gl
 |func f=>simp only[BI,Option.some.injEq,Prod.mk.injEq]at h;obtain⟨rfl,rfl⟩:=h;exact .f
theorem A6.app {E E':List Ck}(h:A6 (E++E')):A6 E/\A6 E':=⟨λ c hc=>h c (List.mem_append_left _ hc),λ c hc=>h c (List.mem_append_right _ hc)⟩
abbrev NY:=Option (XV×List Prop×List Ck)
def MD(k:IntKind)(r:Int):List Prop:=match k with
 | .i64=>[-9223372036854775808<=r/\r<=9223372036854775807]
 | .u8=>[0<=r/\r<=255]
 | .i32=>[-2147483648<=r/\r<=2147483647]
 | .u32=>[0<=r/\r<=4294967295]
 | .u64=>[0<=r/\r<=18446744073709551615]
 |k=>[k.wrap r=r]
def GF:List Prop->Prop
 |[]=>True
 |p::ps=>p/\GF ps
theorem Q0{k:IntKind}{r:Int}(h:GF (MD k r)):k.wrap r=r:=by
 cases k<;>simp only[MD,GF,and_true]at h<;>first|exact h|(simp[IntKind.wrap,IntKind.signed,IntKind.bits];omega)
def arith(op:BinOp)(k:IntKind)(a b:Int):Option (Int×List Prop):=
 match op with
 | .add=>some (a+b,MD k (a+b))
 | .sub=>some (a-b,MD k (a-b))
 | .mul=>some (a*b,MD k (a*b))
 | .quo=>match k with
  | .i64=>some (a/b,[0<=a/\a<=9223372036854775807/\0<b])
  |_=>none
 | .rem=>match k with
  | .i64=>some (a%b,[0<=a/\0<b])
  |_=>none
 |_=>none
def cH(op:BinOp)(a b:Int):Option Bool:=
 match op with
 | .lss=>some (decide (a<b))
 | .leq=>some (decide (a<=b))
 | .gtr=>some (decide (b<a))
 | .geq=>some (decide (b<=a))
 | .eql=>some (a==b)
 | .neq=>some (a != b)
 |_=>none
def cI(op:BinOp)(a b:A1):Option Bool:=
 match op with
 | .lss=>some (Op.bytesLess a b)
 | .leq=>some (Op.bytesLess a b||a==b)
 | .gtr=>some (!(Op.bytesLess a b||a==b))
 | .geq=>some (!Op.bytesLess a b)
 | .eql=>some (a==b)
 | .neq=>some (!(a==b))
 |_=>none
def Q1:IntKind->IntKind->Bool
 | .i64,.i64=>true
 | .u8,.u8=>true
 | .i32,.i32=>true
 | .u32,.u32=>true
 | .u64,.u64=>true
 | .i8,.i8=>true
 | .i16,.i16=>true
 | .u16,.u16=>true
 |_,_=>false
theorem T4{a b:IntKind}(h:Q1 a b=true):a=b:=by cases a<;>cases b<;>first|rfl|(exact absurd h (by decide))|cases h
def WG(op:BinOp):XV->XV->Option (XV×List Prop)
 | .v (
    .int k a),.v (.int k' b)=>match Q1 k k' with
  |true=>match cH op a b with
   |some r=>some (.v (.bool r),[])
   |none=>match arith op k a b with
    |some (r,p)=>some (.v (.int k r),p)
    |none=>none
  |false=>none
 | .v (.string ⟨⟨a⟩⟩),.v (.string ⟨⟨b⟩⟩)=>match cI op a b with
  |some r=>some (.v (.bool r),[])
  |none=>match op with
   | .add=>some (.v (.string ⟨⟨a++b⟩⟩),[len a+len b<=9223372036854775807])
   |_=>none
 |_,_=>none
section
variable {P:Program} {C:World->Prop} {L:Env} {W:Bool} {d:Option Tmp} {ty:TypeId} {ps:String} {af:Array Edge} {gd:Option (Nat×Bool)}
theorem oZ{op:BinOp}{t t':TypeId}{x y:Operand}{a b v:XV}{p:List Prop}(h:WG op a b=some (v,p))(hx:A5 L W x a.d)(hy:A5 L W y b.d)(hp:W=true->GF p):PV P C L W ⟨d,.binOp op t x y t',ty,ps,af,gd⟩ v.d:=by
 unfold WG at h
 split at h
 ·rename_i k a' k' b'
  split at h
  ·rename_i hk
   have:=T4 hk;subst this
   split at h
   ·rename_i r hr
    simp only[Option.some.injEq,Prod.mk.injEq]at h;obtain⟨rfl,rfl⟩:=h
    cases op<;>simp only[cH,Option.some.injEq,reduceCtorEq]at hr<;>subst hr
    ·exact .eql hx hy
    ·exact .neq hx hy
    ·exact .lss hx hy
    ·exact .leq hx hy
    ·exact .gtr hx hy
    ·exact .geq hx hy
   ·split at h
    ·rename_i r p' hr
     simp only[Option.some.injEq,Prod.mk.injEq]at h;obtain⟨rfl,rfl⟩:=h
     cases op<;>simp only[arith,Option.some.injEq,Prod.mk.injEq,reduceCtorEq]at hr
     ·obtain⟨rfl,rfl⟩:=hr;exact .PN hx hy λ hW=>Q0 (hp hW)
     ·obtain⟨rfl,rfl⟩:=hr;exact .SD hx hy λ hW=>Q0 (hp hW)
     ·obtain⟨rfl,rfl⟩:=hr;exact .SE hx hy λ hW=>Q0 (hp hW)
     ·split at hr<;>simp only[Option.some.injEq,Prod.mk.injEq,reduceCtorEq]at hr
      obtain⟨rfl,rfl⟩:=hr;exact .quo hx hy λ hW=>(hp hW).1
     ·split at hr<;>simp only[Option.some.injEq,Prod.mk.injEq,reduceCtorEq]at hr
      obtain⟨rfl,rfl⟩:=hr;exact .rem hx hy λ hW=>(hp hW).1
    ·cases h
  ·cases h
 ·rename_i a' b'
  split at h
  ·rename_i r hr
   simp only[Option.some.injEq,Prod.mk.injEq]at h;obtain⟨rfl,rfl⟩:=h
   cases op<;>simp only[cI,Option.some.injEq,reduceCtorEq]at hr<;>subst hr
   ·exact .SF hx hy
   ·exact .M6 hx hy
   ·exact .mS hx hy
   ·exact .mT hx hy
   ·exact .mU hx hy
   ·exact .mV hx hy
  ·split at h
   ·simp only[Option.some.injEq,Prod.mk.injEq]at h;obtain⟨rfl,rfl⟩:=h
    exact .mX hx hy λ hW=>(hp hW).1
   ·cases h
 ·cases h
end
end Go.Eng
namespace Go.Eng
open Go.RowKit
def ME(F:List (Nat×Kn))(H:List (Nat×HX))(k:Nat):Option Kn:=
 match IQ F k with
 |some K=>some K
 |none=>match F5 H k with
  |some (.pv _ (@Kn.mk α inh v sz l f g' hg') _)=>some (@kn α inh v sz l f)
  |_=>none
def IS(L:XE)(W:Gd)(x y:Operand):Option (XV×XV×List Ck):=
 match BI L W x with
 |some (a,E)=>match BI L W y with
  |some (b,E')=>some (a,b,E++E')
  |none=>none
 |none=>none
theorem JP{L:XE}{W:Gd}{x y:Operand}{a b:XV}{E:List Ck}(h:IS L W x y=some (a,b,E))(hE:A6 E):A5 L.d W.d x a.d/\A5 L.d W.d y b.d:=by
 unfold IS at h
 split at h
 ·rename_i a' E1 h1
  split at h
  ·rename_i b' E2 h2
   simp only[Option.some.injEq,Prod.mk.injEq]at h;obtain⟨rfl,rfl,rfl⟩:=h
   exact⟨AT h1 hE.app.1,AT h2 hE.app.2⟩
  ·cases h
 ·cases h
def Gd.and (W:Gd)(b:Bool):Gd:=match W with
 | .t=>.g b
 | .g a=>.g (a&&b)
theorem Gd.cJ (W:Gd)(b:Bool):(W.and b).d=(W.d&&b):=by cases W<;>simp[Gd.and,Gd.d]
def JQ:XV->Option Bool
 | .v (.bool b)=>some b
 |_=>none
theorem L8{v:XV}{b:Bool}(h:JQ v=some b):v= .v (.bool b):=by unfold JQ at h;split at h<;>simp_all
def K8:XV->Option (IntKind×Int)
 | .v (.int k b)=>some (k,b)
 |_=>none
theorem MF{v:XV}{k:IntKind}{b:Int}(h:K8 v=some (k,b)):v= .v (.int k b):=by unfold K8 at h;split at h<;>simp_all
def WH(L:XE)(W:Gd)(c x y:Operand):NY:=
 match BI L W c with
 |some (
     vc,E)=>match JQ vc with
  |some p=>match y with
   | .const (.bool false)=>match BI L (W.and p) x with
    |some (vx,E')=>match JQ vx with
     |some q=>some (.v (.bool (p&&q)),[],E++E')
     |none=>none
    |none=>none
   |_=>match x with
    | .const (.bool true)=>match BI L (W.and (!p)) y with
     |some (vy,E')=>match JQ vy with
      |some q=>some (.v (.bool (p||q)),[],E++E')
      |none=>none
     |none=>none
    |_=>none
  |none=>none
 |none=>none
def WI(T:TT)(s t:TypeId)(a:XV):Option (XV×List Prop):=
 match K8 a with
 |some (k,n)=>match GD T s with
  |some ⟨.int k1,_,_⟩=>match GD T t with
   |some ⟨.int k2,_,_⟩=>match Q1 k k1 with
    |true=>some (.v (.int k2 n),MD k2 n)
    |false=>none
   |_=>none
  |_=>none
 |none=>none
def Q2:XV->Option A1
 | .v (.string ⟨⟨a⟩⟩)=>some a
 |_=>none
theorem WJ{v:XV}{a:A1}(h:Q2 v=some a):v= .v (str a):=by unfold Q2 at h;split at h<;>simp_all
def WK(T:TT)(F:List (Nat×Kn))(H:List (Nat×HX))(t:TypeId)(a:XV):Option (XV×List Ck):=
 match GD T t with
 |some ⟨.str,_,_⟩=>match Q2 a with
  |some l=>some (.v (i64 (len l)),[])
  |none=>none
 |some ⟨.row e esz,_,_⟩=>match a with
  | .sl k x=>match ME F H k with
   |some (@Kn.mk α inh kv sz l f g' hg')=>some (.v (i64 (len l)),[.v x kv])
   |none=>none
  |_=>none
 |_=>none
def WL(T:TT)(F:List (Nat×Kn))(H:List (Nat×HX))(t:TypeId)(a b:XV):NY:=
 match a with
 | .sl k x=>match GD T t with
  |some ⟨.row e esz,_,_⟩=>match K8 b with
   |some (_,i)=>match ME F H k with
    |some (@Kn.mk α inh kv sz l f g' hg')=>some (.el k x esz i 0,[0<=i/\i<len l],[.v x kv,.n esz sz])
    |none=>none
   |none=>none
  |_=>none
 |_=>none
def WM(T:TT)(t:TypeId)(a:XV)(f:Nat):Option XV:=
 match GD T t with
 |some ⟨.st fs _,_,_⟩=>match nth fs f with
  |some (off,_,_)=>match a with
   | .el k x sz i j=>some (.el k x sz i (j+off))
   | .bx k b o=>some (.bx k b (o+off))
   |_=>none
  |none=>none
 |_=>none
def WN:XV->Bool
 | .ag _=>false
 | .tu _=>false
 |_=>true
def WO(T:TT)(t:TypeId)(a:XV)(f:Nat):Option XV:=
 match GD T t with
 |some ⟨.st fs _,sz,_⟩=>match nth fs f with
  |some (
      off,n,g)=>match a with
   | .ag cs=>match Nat.beq cs.length sz with
    |true=>match g with
     |true=>match I2 cs off n with
      |some r=>some (.ag r)
      |none=>none
     |false=>match nth cs off with
      |some c=>match WN c with
       |true=>some c
       |false=>none
      |none=>none
    |false=>none
   |_=>none
  |none=>none
 |_=>none
def T5(T:TT)(F:List (Nat×Kn))(H:List (Nat×HX))(t:TypeId)(a:XV):NY:=
 match GD T t with
 |some ⟨_,n,g⟩=>match a with
  | .el k x sz i j=>match ME F H k with
   |some (@Kn.mk α inh kv ksz l f g' hg')=>match g with
    |false=>match nth (f (@at' α inh l i)) j with
     |some c=>some (.v c,[0<=i/\i<len l],[.v x kv,.n sz ksz])
     |none=>none
    |true=>match I2 (f (@at' α inh l i)) j n with
     |some r=>match NX r with
      |some r'=>some (.ag r',[0<=i/\i<len l],[.v x kv,.n sz ksz])
      |none=>none
     |none=>none
   |none=>none
  | .bx k b o=>match F5 H k with
   |some (.box b' cs _)=>match g with
    |false=>match nth cs o with
     |some c=>match WN c with
      |true=>some (c,[],[.n b b'])
      |false=>none
     |none=>none
    |true=>match I2 cs o n with
     |some r=>some (.ag r,[],[.n b b'])
     |none=>none
   |_=>none
  |_=>none
 |none=>none
def L3(T:TT)(L:XE)(W:Gd)(t:TypeId)(x:Operand)(lo hi:Option Operand):NY:=
 match GD T t with
 |some ⟨.str,_,_⟩=>match BI L W x with
  |some (
      vx,E)=>match Q2 vx with
   |some a=>match lo,hi with
    |some y,some z=>match BI L W y with
     |some (vy,E1)=>match BI L W z with
      |some (vz,E2)=>match K8 vy with
       |some (_,i)=>match K8 vz with
        |some (_,j)=>some (.v (str (Eng.sub a i j)),[0<=i/\i<=j/\j<=len a],E++(E1++E2))
        |none=>none
       |none=>none
      |none=>none
     |none=>none
    |some y,none=>match BI L W y with
     |some (vy,E1)=>match K8 vy with
      |some (_,i)=>some (.v (str (A3 a i)),[0<=i/\i<=len a],E++E1)
      |none=>none
     |none=>none
    |none,some z=>match BI L W z with
     |some (vz,E1)=>match K8 vz with
      |some (_,j)=>some (.v (str (Eng.sub a 0 j)),[0<=j/\j<=len a],E++E1)
      |none=>none
     |none=>none
    |none,none=>none
   |none=>none
  |none=>none
 |_=>none
def WQ:XV->Option XV
 | .v (.bool b)=>some (.v (.bool (!b)))
 |_=>none
def WR:XV->Option (XV×List Prop)
 | .v (.int k a)=>some (.v (.int k (-a)),MD k (-a))
 |_=>none
def WS(T:TT)(op:BinOp)(t:TypeId)(a b:XV):Option XV:=
 match JQ a with
 |some p=>match JQ b with
  |some q=>match GD T t with
   |some ⟨.bool,_,_⟩=>match op with
    | .eql=>some (.v (.bool (p==q)))
    | .neq=>some (.v (.bool (p != q)))
    |_=>none
   |_=>none
  |none=>none
 |none=>none
def E9(T:TT)(t:TypeId)(a b:XV):Option (XV×List Prop):=
 match GD T t with
 |some ⟨.str,_,_⟩=>match Q2 a with
  |some s=>match K8 b with
   |some (_,i)=>some (.v (.int .u8 (A2 s i)),[0<=i/\i<len s])
   |none=>none
  |none=>none
 |_=>none
def cellsOf:XV->Option (List XV)
 | .ag cs=>some cs
 | .tu _=>none
 |x=>some [x]
def T6(F:List (Nat×Kn))(H:List (Nat×HX)):XV->Option (List Ck)
 | .v u=>match u.oneCell' with
  |true=>some []
  |false=>none
 | .sl k u=>match ME F H k with
  |some (@Kn.mk α inh kv sz l f g' hg')=>some [.v u kv]
  |none=>none
 | .el _ _ _ _ _=>some []
 | .bx _ _ _=>some []
 |_=>none
def NZ(
      F:List (Nat×Kn)) (H:List (Nat×HX)) (L:XE) (W:Gd) (fs:List (Nat×Nat×Bool)):List XV->List (Nat×Operand)->Option (List XV×List Ck)
 |cs,[]=>some (cs,[])
 |cs,(i,x)::ps=>match nth fs i with
  |some (
      off,n,g)=>match BI L W x with
   |some (
       v,E)=>match g with
    |true=>match v with
     | .ag vs=>match Nat.beq vs.length n with
      |true=>match I3 cs off vs with
       |some cs'=>match NZ F H L W fs cs' ps with
        |some (r,E')=>some (r,E++E')
        |none=>none
       |none=>none
      |false=>none
     |_=>none
    |false=>match T6 F H v with
     |some E1=>match Nat.beq 1 n with
      |true=>match I3 cs off [v]with
       |some cs'=>match NZ F H L W fs cs' ps with
        |some (r,E')=>some (r,E1++(E++E'))
        |none=>none
       |none=>none
      |false=>none
     |none=>none
   |none=>none
  |none=>none
def WT(T:TT)(F:List (Nat×Kn))(H:List (Nat×HX))(L:XE)(W:Gd)(t:TypeId)(ps:Array (Nat×Operand)):NY:=
 match GD T t with
 |some ⟨.st fs zs,_,_⟩=>match ps with
  |⟨l⟩=>match NX zs with
   |some cs=>match NZ F H L W fs cs l with
    |some (r,E)=>some (.ag r,[],E)
    |none=>none
   |none=>none
 |_=>none
def WU(a:XV)(i:Nat):Option XV:=
 match a with
 | .tu vs=>match nth vs i with
  |some (.tu _)=>none
  |r=>r
 |_=>none
def p8:XV->Bool
 | .bx _ _ _=>true
 | .el _ _ _ _ _=>true
 |_=>false
def O0(T:TT)(F:List (Nat×Kn))(H:List (Nat×HX))(L:XE)(W:Gd):Op->NY
 | .move x=>match BI L W x with
  |some (v,E)=>some (v,[],E)
  |none=>none
 | .assign x=>match BI L W x with
  |some (v,E)=>some (v,[],E)
  |none=>none
 | .pick c x y=>WH L W c x y
 | .binOp op t x y _=>match IS L W x y with
  |some (a,b,E)=>match WG op a b with
   |some (v,p)=>some (v,p,E)
   |none=>match WS T op t a b with
    |some v=>some (v,[],E)
    |none=>none
  |none=>none
 | .unOp op _ x=>match BI L W x with
  |some (a,E)=>match op with
   | .not=>match WQ a with
    |some v=>some (v,[],E)
    |none=>none
   | .neg=>match WR a with
    |some (v,p)=>some (v,p,E)
    |none=>none
   |_=>none
  |none=>none
 | .convert s t x=>match BI L W x with
  |some (a,E)=>match WI T s t a with
   |some (v,p)=>some (v,p,E)
   |none=>none
  |none=>none
 | .slice t x lo hi none=>L3 T L W t x lo hi
 | .fieldAddr t x f=>match BI L W x with
  |some (a,E)=>match WM T t a f with
   |some v=>some (v,[],E)
   |none=>none
  |none=>none
 | .field t x f=>match BI L W x with
  |some (a,E)=>match WO T t a f with
   |some v=>some (v,[],E)
   |none=>none
  |none=>none
 | .indexAddr t x y=>match IS L W x y with
  |some (a,b,E)=>match WL T F H t a b with
   |some (v,p,E')=>some (v,p,E++E')
   |none=>none
  |none=>none
 | .index t x y=>match IS L W x y with
  |some (a,b,E)=>match E9 T t a b with
   |some (v,p)=>some (v,p,E)
   |none=>none
  |none=>none
 | .load t x=>match BI L W x with
  |some (a,E)=>match T5 T F H t a with
   |some (v,p,E')=>some (v,p,E++E')
   |none=>none
  |none=>none
 | .build t ps=>WT T F H L W t ps
 | .extract x i=>match BI L W x with
  |some (a,E)=>match WU a i with
   |some v=>some (v,[],E)
   |none=>none
  |none=>none
 | .call ⟨.builtin .len,⟨[x]⟩,⟨[t]⟩⟩=>match BI L W x with
  |some (a,E)=>match WK T F H t a with
   |some (v,E')=>some (v,[],E++E')
   |none=>none
  |none=>none
 | .nilCheck x=>match BI L W x with
  |some (a,E)=>match p8 a with
   |true=>some (a,[],E)
   |false=>none
  |none=>none
 |_=>none
end Go.Eng
namespace Go.Eng
open Go.RowKit
section st
variable {w0 w:World} {M0 M:Mem} {Hs:List HO}
theorem St.p9 (h:St w0 M0 w M Hs)(e:TypeId)(sz n:Nat)(xs:List Value)(hl:xs.length=n*sz)(hm:n<=maxLen):
  St w0 M0 (w.alloc (.cells xs.toArray e)) M (.priv e sz (.slice (some ⟨w.heap.size,0,none⟩) n n) n xs::Hs):=by
 have h1:=h.ext (Ext.alloc w (.cells xs.toArray e))
 refine⟨h1.low,h1.sat,h1.old,λ x hx=>?_,List.pairwise_cons.2 ⟨λ y hy b hb=>?_,h.apart⟩⟩
 ·rcases List.mem_cons.1 hx with rfl|hx
  ·refine⟨⟨hl,.inr ⟨w.heap.size,n,xs.toArray,rfl,h.size,heap_alloc_new _ _,Nat.le_refl _,hm,by simpa using hl,by rw[<-hl];simp⟩⟩,λ b hb o=>?_⟩
   simp only[Value.ownBlock,Option.some.injEq]at hb;subst hb
   exact h.PO (Nat.le_refl _) o
  ·exact h1.ok x hx
 ·simp only[HO.DF,Value.ownBlock,Option.some.injEq]at hb;subst hb
  intro hy'
  have:=(HO.ok.lt (h.ok y hy) hy').2
  omega
theorem St.cK (h:St w0 M0 w M Hs)(e:TypeId)(sz:Nat):St w0 M0 w M (.priv e sz (.slice none 0 0) 0 []::Hs):=
 ⟨h.low,h.sat,h.old,λ x hx=>by
  rcases List.mem_cons.1 hx with rfl|hx
  ·exact⟨World.ownsRow_nil w _ e sz,λ b hb=>(by cases hb)⟩
  ·exact h.ok x hx,List.pairwise_cons.2 ⟨λ y hy b hb=>(by cases hb),h.apart⟩⟩
theorem St.show (h:St w0 M0 w M Hs){k:Nat}{e:TypeId}{sz n:Nat}{v:Value}{xs:List Value}(hk:Hs[k]? =some (.priv e sz v n xs)):
  ∃M',St w0 M0 w M' (Hs.set k (.own e sz v n xs))/\M.le M':=by
 obtain⟨hown,hmem⟩:=h.obj hk
 let M':Mem:=λ b o=>if v.ownBlock=some b then xs[o]? else M b o
 have hne: ∀b,v.ownBlock≠some b-> ∀o,M' b o=M b o:=λ b hb o=>if_neg hb
 have heq: ∀b,v.ownBlock=some b-> ∀o,M' b o=xs[o]?:=λ b hb o=>if_pos hb
 refine⟨M',?_,λ b o u hu=>?_⟩
 ·refine h.write hk (Below.refl _ _) ⟨λ b o u hu=>?_⟩ (λ b o hb=>hne b (λ e=>by have:=(World.ownsRow.lt hown b e).1;omega) o) (λ _ _ _=>rfl) (λ b _ hb o=>hne b hb o) ⟨hown,λ b hb=>⟨λ o _=>heq b hb o,λ o ho=>by rw[heq b hb o];exact List.getElem?_eq_none ho⟩⟩ (λ _ hb=>.inl hb)
  by_cases hb:v.ownBlock=some b
  ·rw[heq b hb]at hu
   have:=hown.cells hb o u hu
   rwa [HB,Nat.zero_add]at this
  ·rw[hne b hb]at hu;exact h.sat.cell b o u hu
 ·by_cases hb:v.ownBlock=some b
  ·rw[hmem b hb o]at hu;cases hu
  ·rw[hne b hb,hu]
theorem St.told (h:St w0 M0 w M Hs){k:Nat}{e:TypeId}{sz n:Nat}{v:Value}{xs:List Value}(hk:Hs[k]? =some (.priv e sz v n xs)):St w0 M0 w (h.show hk).choose (Hs.set k (.own e sz v n xs)):=(h.show hk).choose_spec.1
theorem St.pA {P:Program}(h:St w0 M0 w M Hs){k:Nat}{t ty e:TypeId}{i:TypeInfo}{z:Value}{sz n m:Nat}{v x:Value}{xs news:List Value}(hk:Hs[k]? =some (.priv e sz v n xs))(hx:Sl M sz m x news)
  (ht:P.underlying t=some (.slice e)) (hi:P.info? e=some i) (hz:i.zero=some z) (hsize:i.size=sz) (hzs:z.cells.size=sz) (h1: ∀u∈news,u.oneCell'=true)
  (h63:n+m<=maxLen) (hbytes:(n+m)*i.bytes<=140737488355328):
  ∃v' w',(Builtin.append_ #[t,t] ty #[v,x]).run P w= .ok v' w'/\St w0 M0 w' M (Hs.set k (.priv e sz v' (n+m) (xs++news))):=by
 obtain⟨hown,hmem⟩:=h.obj hk
 obtain⟨p,cap,rfl,hnc,_,hp⟩:=hx.val
 have hx': ∃p' c,(Value.slice p m cap)= .slice p' m c/\(0<m-> ∃a,p'=some a/\ ∀j u,news[j]? =some u->w.cell? (a.add j)=some u):=by
  refine⟨p,cap,rfl,λ hm=>?_⟩
  obtain⟨b,o,hp',hc⟩:=hp hm
  refine⟨_,hp',λ j u hu=>?_⟩
  rw[HB]
  refine h.sat.cell _ _ _ ?_
  rw[hc j (List.getElem?_eq_some_iff.1 hu).1,hu]
 obtain⟨v',w',hr,hown',hlow,hheap,hpre,hblk⟩:=bB (P:=P) w w0.heap.size t ty e i z sz ht hi hz hsize hzs v n xs hown _ m news hx.len hx' h1 h63 hbytes h.size
 have hnone: ∀b,v'.ownBlock=some b-> ∀o,M b o=none:=λ b hb o=>by
  rcases hblk with h2|⟨b',h2,h3⟩
  ·exact hmem b (by rw[<-h2];exact hb) o
  ·rw[hb]at h2;cases h2;exact h.PO h3 o
 refine⟨v',w',hr,h.write hk hlow ⟨λ b o u hu=>?_⟩ (λ _ _ _=>rfl) (λ b hb hne=>hheap b hb hne) (λ _ _ _ _=>rfl) ⟨hown',hnone⟩ (λ b hb=>?_)⟩
 ·have hlt:=h.sat.lt hu
  have hne:v.ownBlock≠some b:=λ e=>by rw[hmem b e o]at hu;cases hu
  have:=h.sat.cell b o u hu
  simp only[World.cell?,hheap b hlt hne]at this ⊢;exact this
 ·rcases hblk with h2|⟨b',h2,h3⟩
  ·exact .inl (by show v.ownBlock=some b;rw[<-h2];exact hb)
  ·have hb':v'.ownBlock=some b:=hb
   rw[hb']at h2;cases h2;exact .inr h3
theorem St.pB {P:Program}(h:St w0 M0 w M Hs){k:Nat}{e:TypeId}{sz n:Nat}{v:Value}{xs us:List Value}{o:Nat}(hk:Hs[k]? =some (.priv e sz v n xs))(ho:o+us.length<=xs.length)(hu:0<us.length)(h1: ∀u∈us,u.oneCell'=true):
  ∃w',(storeCells ⟨sb v,so v+o,none⟩ us 0).run P w= .ok () w'/\St w0 M0 w' M (Hs.set k (.priv e sz v n (F4 xs o us))):=by
 obtain⟨⟨hl,hv⟩,hmem⟩:=h.obj hk
 rcases hv with⟨rfl,rfl⟩|⟨g,cap,cur,rfl,hg,hh,hnc,hcm,hcs,htk⟩
 ·rw[Nat.zero_mul]at hl;omega
 ·have hxl:xs.length<=cur.size:=by rw[<-htk,List.length_take];simp;omega
  have hst:=run_storeCells_at P g o e us 0 cur w hh (by omega) h1
  refine⟨_,by simpa[sb,so]using hst,?_⟩
  have hlt:g<w.heap.size:=by
   rcases Nat.lt_or_ge g w.heap.size with h'|h'
   ·exact h'
   ·simp[Array.getElem?_eq_none h']at hh
  refine h.write hk (SI _ hg) ⟨λ b' o' u hu'=>?_⟩ (λ _ _ _=>rfl) (λ b _ hb=>M7 _ _ _ _ (λ e=>hb (by rw[e];rfl))) (λ _ _ _ _=>rfl) ⟨⟨?_,.inr ⟨g,cap,_,rfl,hg,NL _ _ _ _ _ _ hh,hnc,hcm,?_,?_⟩⟩,λ b hb o'=>hmem b hb o'⟩ (λ _ hb=>.inl hb)
  ·have hne:b'≠g:=λ e=>by subst e;rw[hmem b' rfl o']at hu';cases hu'
   have:=h.sat.cell b' o' u hu'
   simp only[World.cell?,M7 _ _ _ _ hne]at this ⊢
   exact this
  ·unfold F4;simp only[List.length_append,List.length_take,List.length_drop];omega
  ·simp only[List.size_toArray,List.length_append,List.length_take,List.length_drop,Array.length_toList];omega
  ·unfold F4
   simp only[Nat.add_zero]
   have hA:(List.take o cur.toList).length=o:=by rw[List.length_take,Array.length_toList];omega
   rw[<-htk,List.take_take,List.drop_take,Nat.min_eq_left (by omega:o<=n*sz)]
   simp only[List.append_assoc]
   rw[List.take_append,List.take_append,hA,List.take_take,Nat.min_eq_right (by omega:o<=n*sz),List.take_of_length_le (l:=us) (by omega),Nat.sub_sub]
end st
section rl
variable {P:Program} {ops:Array Oper} {Q:Exit->Act->World->Prop} {N:Nat} {rest:List Oper} {L:Env} {w0 w:World} {M0 M:Mem} {Hs:List HO} {d:Nat} {ty:TypeId} {ps:String} {af:Array Edge}
theorem RL.pC {t e:TypeId}{n sz:Nat}{xs:List (Nat×Operand)}{vs:List (Nat×Value)}{cs:List Value}(hS:St w0 M0 w M Hs)(hx:ES L true xs vs)(hl:cs.length=n*sz)(hm:Nat.ble n 9223372036854775807=true)
  (hr: ∀w,(Instr.buildSlice t n vs.toArray).run P w= .ok (.slice (some ⟨w.heap.size,0,none⟩) n n) (w.alloc (.cells cs.toArray e))) (hd:Nat.blt d N=true)
  (h: ∀v w',St w0 M0 w' M (.priv e sz v n cs::Hs)->RL P ops Q N rest ((d,true,v)::L) w'):RL P ops Q N (⟨some d,.buildSlice t n xs.toArray,ty,ps,af,none⟩::rest) L w:=by
 intro a hs
 refine wpList_plain U λ K hK=>?_
 have e1:xs.toArray.map (λ p=>(p.1,a.eval p.2))=vs.toArray:=by rw[List.map_toArray,ES.map hs U xs vs hx]
 have key:(execOp a.eval ⟨some d,.buildSlice t n xs.toArray,ty,ps,af,none⟩).run P w= .ok (.value (.slice (some ⟨w.heap.size,0,none⟩) n n)) (w.alloc (.cells cs.toArray e)):=by
  simp only[execOp,e1];rw[Sem.run_bind,hr w];rfl
 simp only[Oper.wp,key,Oper.upon_value]
 exact hK _ _ (h _ _ (hS.p9 e sz n cs hl (by have:=Nat.le_of_ble_eq_true hm;simp only[maxLen];omega)) _ (hs.put hd true _))
theorem RL.pD {α:Type}{f:α->List Value}{l m:List α}{t e:TypeId}{s x:Operand}{i:TypeInfo}{z:Value}{k sz by':Nat}{v vx:Value}(hS:St w0 M0 w M Hs)(hk:Hs[k]? =some (.priv e sz v l.length (l.flatMap f)))(hs:A5 L true s v)(hx:A5 L true x vx)(hsl:Sl M sz m.length vx (m.flatMap f))
  (ht:P.underlying t=some (.slice e)) (hi:P.info? e=some i) (hz:i.zero=some z) (hsize:i.size=sz) (hzs:z.cells.size=sz) (h1: ∀x,∀u∈f x,u.oneCell'=true) (hby:i.bytes=by') (hb0:Nat.blt 0 by'=true)
  (hb:(len l+len m)*by'<=140737488355328) (hd:Nat.blt d N=true) {Hs':Value->List HO} (hHs: ∀v',Hs.set k (.priv e sz v' (l++m).length ((l++m).flatMap f))=Hs' v')
  (h: ∀v' w',St w0 M0 w' M (Hs' v')->RL P ops Q N rest ((d,true,v')::L) w'):RL P ops Q N (⟨some d,.call ⟨.builtin .append,#[s,x],#[t,t]⟩,ty,ps,af,none⟩::rest) L w:=by
 subst hby
 have hb0':0<i.bytes:=by simpa[Nat.blt_eq]using hb0
 unfold len at hb
 intro a hsl'
 refine wpList_plain U λ K hK=>?_
 have hb2:(l.length+m.length)*i.bytes<=140737488355328:=by
  rw[<-Int.natCast_add,<-Int.natCast_mul]at hb
  generalize (l.length+m.length)*i.bytes=q at hb ⊢
  omega
 have hle:(l.length+m.length)*1<=(l.length+m.length)*i.bytes:=Nat.mul_le_mul_left _ hb0'
 obtain⟨v',w',hr,hS'⟩:=hS.pA (P:=P) (ty:=ty) hk hsl ht hi hz hsize hzs (λ u hu=>by obtain⟨y,_,hy⟩:=List.mem_flatMap.1 hu;exact h1 y u hy) (by simp only[maxLen];omega) hb2
 have key:(execOp a.eval ⟨some d,.call ⟨.builtin .append,#[s,x],#[t,t]⟩,ty,ps,af,none⟩).run P w= .ok (.value v') w':=by
  simp only[execOp,resolve,invoke,builtin,Sem.run_bind,Sem.run_pure,Result.andThen_ok,List.map_toArray,List.map_cons,List.map_nil,hs a N hsl' U,hx a N hsl' U,hr]
 simp only[Oper.wp,key,Oper.upon_value]
 exact hK _ _ (h _ _ (by rw[<-hHs v',List.length_append,List.flatMap_append];exact hS') _ (hsl'.put hd true _))
theorem RL.pE {t e:TypeId}{x y:Operand}{k sz n m o:Nat}{v u:Value}{xs xs':List Value}(hS:St w0 M0 w M Hs)(hk:Hs[k]? =some (.priv e sz v n xs))(hx:A5 L true x (.pointer (some ⟨sb v,so v+o,none⟩)))(hy:A5 L true y u)(hs: ∀w,(sizeOf t).run P w= .ok m w)
  (hn:u.cells.toList.length=m) (hm0:Nat.blt 0 m=true) (hfit:o+m<=xs.length) (h1:(u.cells.toList.all (·.oneCell'))=true) (hxs:F4 xs o u.cells.toList=xs') {Hs':List HO} (hHs:Hs.set k (.priv e sz v n xs')=Hs')
  (h: ∀w',St w0 M0 w' M Hs'->RL P ops Q N rest L w'):RL P ops Q N (⟨none,.store t x y,ty,ps,af,none⟩::rest) L w:=by
 intro a hsl
 refine wpList_plain U λ K hK=>?_
 obtain⟨w',hst,hS'⟩:=hS.pB (P:=P) (us:=u.cells.toList) (o:=o) hk (by omega) (by rw[hn];simpa[Nat.blt_eq]using hm0) (List.all_eq_true.1 h1)
 have hn':u.cells.size=m:=by rw[<-hn];simp
 have key:(Instr.storeAt t (.pointer (some ⟨sb v,so v+o,none⟩)) u).run P w= .ok () w':=by
  simp only[Instr.storeAt,Instr.sureAddr,storeVar,Sem.run_bind,Sem.run_pure,Result.andThen_ok,hs,hn',ne_eq,not_true_eq_false,if_false,hst]
 have key2:(execOp a.eval ⟨none,.store t x y,ty,ps,af,none⟩).run P w= .ok .skip w':=by
  simp only[execOp,hx a N hsl U,hy a N hsl U];rw[Sem.run_bind,key];rfl
 simp only[Oper.wp,key2,Oper.upon_skip]
 exact hK _ _ (h _ (by rw[<-hHs,<-hxs];exact hS') _ hsl)
end rl
theorem pF{α:Type}[Inhabited α]{f:α->List Value}{sz:Nat}(hf: ∀x,(f x).length=sz)(l:List α)(i:Nat)(y:α)(off:Nat)(us:List Value)(hi:i<l.length)(hy:F4 (f (l.getD i default)) off us=f y)(hoff:off+us.length<=sz):
  F4 (l.flatMap f) (i*sz+off) us=(l.set i y).flatMap f:=by
 induction l generalizing i with
 |nil=>simp at hi
 |cons x l ih=>
  cases i with
  |zero=>
   have hy':F4 (f x) off us=f y:=by simpa using hy
   have hx:=hf x
   simp only[List.set_cons_zero,List.flatMap_cons,Nat.zero_mul,Nat.zero_add]
   rw[<-hy']
   unfold F4
   rw[List.take_append_of_le_length (by omega),List.drop_append_of_le_length (by omega)]
   simp
  |succ i=>
   have h2:=ih i (by simpa using hi) (by simpa using hy)
   have hx:=hf x
   simp only[List.set_cons_succ,List.flatMap_cons]
   rw[<-h2]
   unfold F4
   have e1:(i+1)*sz+off=(f x).length+(i*sz+off):=by rw[hx,Nat.succ_mul];omega
   rw[e1,List.take_append,List.drop_append,List.take_of_length_le (by omega),show(f x).length+(i*sz+off)-(f x).length=i*sz+off from by omega,List.drop_eq_nil_of_le (by omega),show(f x).length+(i*sz+off)+us.length-(f x).length=i*sz+off+us.length from by omega]
   simp
end Go.Eng
