/-
  Parts Eng EngB, put together and made short by wip/py/merge.py (mini.py).
-/
import Derived.WalkKit
import Derived.WalkLawsBesides
import Derived.Deep.Quiet
import Derived.Test.YtmjpjbmeamnfpaaGreatDoorZe0
set_option linter.unusedVariables false
set_option linter.unusedSimpArgs false
namespace Go.Eng
abbrev A1:=List UInt8
abbrev str(l:A1):Value:=.string ⟨⟨l⟩⟩
abbrev i64(n:Int):Value:=.int .i64 n
def len{α:Type}(l:List α):Int:=l.length
theorem JG{α:Type}{l:List α}(h: ¬l=[]):0<len l:=by
 cases l with
 |nil=>exact absurd U h
 |cons x l=>unfold len;simp only[List.length_cons];omega
theorem A8{α:Type}(l:List α):0<=len l:=Int.natCast_nonneg _
def A2(l:A1)(i:Int):Int:=((l.getD i.toNat 0).toNat:Int)
theorem NK(l:A1)(i:Int):0<=A2 l i/\A2 l i<=255:=by
 unfold A2;have:=(l.getD i.toNat 0).toNat_lt;omega
def sub{α:Type}(l:List α)(a b:Int):List α:=(l.drop a.toNat).take (b.toNat-a.toNat)
def A3{α:Type}(l:List α)(a:Int):List α:=l.drop a.toNat
abbrev Env:=List (Nat×Bool×Value)
def look:Env->Nat->Option (Bool×Value)
 |[],_=>none
 |(t,g,v)::L,k=>match Nat.beq t k with
  |true=>some (g,v)
  |false=>look L k
theorem JH(t:Nat)(g:Bool)(v:Value)(L:Env):look ((t,g,v)::L) t=some (g,v):=by
 simp[look]
theorem HZ{t k:Nat}(h:t≠k)(g:Bool)(v:Value)(L:Env):look ((t,g,v)::L) k=look L k:=by
 have:Nat.beq t k=false:=by cases hb:Nat.beq t k<;>simp_all [Nat.beq_eq]
 simp[look,this]
def BL:List Nat->Env->Env
 |[],_=>[]
 |k::ks,L=>match look L k with
  |some x=>(k,x)::BL ks L
  |none=>BL ks L
theorem VT: ∀(ks:List Nat) (L:Env) (t:Nat) (g:Bool) (v:Value),look (BL ks L) t=some (g,v)->look L t=some (g,v)
 |[],_,_,_,_,h=>by simp[BL,look]at h
 |k::ks,L,t,g,v,h=>by
  unfold BL at h
  split at h
  ·rename_i x hx
   obtain⟨g',v'⟩:=x
   by_cases hk:k=t
   ·subst hk;rw[JH]at h;rw[hx,h]
   ·rw[HZ hk]at h;exact VT ks L t g v h
  ·exact VT ks L t g v h
def sv(g:Bool)(v:Value):Value:=if g=true then v else undef
structure AF (a:Act) (N:Nat) (L:Env):Prop where
 size:a.tmps.size=N
 CD:a.defers=[]
 val: ∀t g v,look L t=some (g,v)->a.tmps[t]? =some (sv g v)
theorem AF.put {a:Act}{N:Nat}{L:Env}(h:AF a N L){d:Nat}(hd:Nat.blt d N=true)(g:Bool)(v:Value):
  AF (a.put (some d) (sv g v)) N ((d,g,v)::L):=by
 have hd':d<N:=by simpa[Nat.blt_eq]using hd
 refine⟨by simp[Act.put,h.size],by simp[Act.put,h.CD],λ t g' v' ht=>?_⟩
 by_cases e:d=t
 ·subst e;rw[JH]at ht;simp at ht;obtain⟨rfl,rfl⟩:=ht
  simp[Act.put,h.size,hd']
 ·rw[HZ e]at ht
  have:=h.val t g' v' ht
  simp[Act.put,Array.getElem?_setIfInBounds_ne e,this]
theorem AF.BL {a:Act}{N:Nat}{L:Env}(h:AF a N L)(ks:List Nat):AF a N (BL ks L):=
 ⟨h.size,h.CD,λ t g v ht=>h.val t g v (VT ks L t g v ht)⟩
theorem AF.none {a:Act}{N:Nat}{L:Env}(h:AF a N L)(v:Value):AF (a.put none v) N L:=h
theorem AF.get {a:Act}{N:Nat}{L:Env}(h:AF a N L){t:Nat}{v:Value}(hl:look L t=some (true,v)):a.tmps.getD t undef=v:=by
 have:=h.val t true v hl
 simp[sv]at this
 simp[Array.getD_eq_getD_getElem?,this]
def JI:Nat->List Value->Env
 |_,[]=>[]
 |k,v::vs=>(k,true,v)::JI (k+1) vs
theorem aS: ∀(vs:List Value) (k t:Nat) (g:Bool) (v:Value),look (JI k vs) t=some (g,v)->g=true/\k<=t/\vs[t-k]? =some v
 |[],_,_,_,_,h=>by simp[JI,look]at h
 |x::vs,k,t,g,v,h=>by
  unfold JI at h
  by_cases e:k=t
  ·subst e;rw[JH]at h;simp at h;obtain⟨rfl,rfl⟩:=h;simp
  ·rw[HZ e]at h
   obtain⟨h1,h2,h3⟩:=aS vs (k+1) t g v h
   refine⟨h1,by omega,?_⟩
   rw[show t-k=(t-(k+1))+1 from by omega,List.getElem?_cons_succ,h3]
theorem AF.enter (vs:List Value)(N:Nat)(h:vs.length<=N):
  AF { tmps:=vs.toArray++Array.replicate (N-vs.toArray.size) undef,defers:=[]} N (JI 0 vs):=by
 refine⟨by simp;omega,rfl,λ t g v ht=>?_⟩
 obtain⟨rfl,_,h3⟩:=aS vs 0 t g v ht
 have hlt:t<vs.length:=by
  rcases Nat.lt_or_ge t vs.length with h|h
  ·exact h
  ·simp[h]at h3
 have h3':vs[t]? =some v:=by simpa using h3
 rw[List.getElem?_eq_getElem hlt]at h3'
 simp[sv,hlt,Array.getElem?_append_left]
 exact Option.some.inj h3'
def A5(L:Env)(W:Bool)(x:Operand)(v:Value):Prop:= ∀a N,AF a N L->W=true->a.eval x=v
theorem A5.t {L:Env}{W:Bool}{k:Nat}{v:Value}(h:look L k=some (true,v)):A5 L W (.tmp k) v:=
 λ _ _ hs _=>hs.get h
theorem A5.g {L:Env}{W g:Bool}{k:Nat}{v:Value}(h:look L k=some (g,v))(hg:W=true->g=true):A5 L W (.tmp k) v:=
 λ _ _ hs hW=>hs.get (by rw[h,hg hW])
theorem A5.c {L:Env}{W:Bool}{v:Value}:A5 L W (.const v) v:=λ _ _ _ _=>rfl
theorem A5.f {L:Env}{W:Bool}{k:FuncId}:A5 L W (.func k) (.func (.func k) #[] #[]):=λ _ _ _ _=>rfl
theorem A5.gl {L:Env}{W:Bool}{k:Nat}:A5 L W (.global k) (.pointer (some ⟨k,0,none⟩)):=λ _ _ _ _=>rfl
def CG(ops:Array Oper)(L:Env)(gd:Option (Nat×Bool))(W:Bool):Prop:=
 ∀a N,AF a N L->(match gd with|none=>true|some (j,want)=>yielded ops a.tmps j==some want)=W
theorem CG.none {ops:Array Oper}{L:Env}:CG ops L none true:=λ _ _ _=>rfl
theorem SC{ops:Array Oper}{L:Env}{a:Act}{N j s:Nat}{g b:Bool}(hj:(ops[j]?).bind (·.dst)=some s)(hl:look L s=some (g,.bool b))(hs:AF a N L):
  yielded ops a.tmps j=if g=true then some b else none:=by
 have:=hs.val s g _ hl
 unfold yielded
 rw[hj]
 simp only[Option.bind_some,this]
 cases g<;>simp[sv,undef]
theorem CG.pos {ops:Array Oper}{L:Env}{j s:Nat}{b:Bool}(hj:(ops[j]?).bind (·.dst)=some s)(hl:look L s=some (true,.bool b)):CG ops L (some (j,true)) b:=by
 intro a N hs
 simp only[SC hj hl hs]
 cases b<;>rfl
theorem CG.neg {ops:Array Oper}{L:Env}{j s:Nat}{b:Bool}(hj:(ops[j]?).bind (·.dst)=some s)(hl:look L s=some (true,.bool b)):CG ops L (some (j,false)) (!b):=by
 intro a N hs
 simp only[SC hj hl hs]
 cases b<;>rfl
theorem CG.GQ {ops:Array Oper}{L:Env}{j s:Nat}{g b:Bool}(hj:(ops[j]?).bind (·.dst)=some s)(hl:look L s=some (g,.bool b)):CG ops L (some (j,true)) (g&&b):=by
 intro a N hs
 simp only[SC hj hl hs]
 cases g<;>cases b<;>rfl
theorem CG.aT {ops:Array Oper}{L:Env}{j s:Nat}{g b:Bool}(hj:(ops[j]?).bind (·.dst)=some s)(hl:look L s=some (g,.bool b)):CG ops L (some (j,false)) (g&& !b):=by
 intro a N hs
 simp only[SC hj hl hs]
 cases g<;>cases b<;>rfl
theorem CG.wanted {ops:Array Oper}{L:Env}{o:Oper}{W:Bool}(h:CG ops L o.guard W){a:Act}{N:Nat}(hs:AF a N L):Region.wanted o (yielded ops a.tmps)=W:=by
 have:=h a N hs
 unfold Region.wanted
 split at this<;>rename_i he<;>simp only[he]<;>exact this
def PV(P:Program)(C:World->Prop)(L:Env)(W:Bool)(o:Oper)(v:Value):Prop:=
 ∀a N,AF a N L->W=true-> ∀w,C w->(execOp a.eval o).run P w= .ok (.value v) w
section pv
variable {P:Program} {C:World->Prop} {L:Env} {W:Bool} {d:Option Tmp} {ty:TypeId} {ps:String} {af:Array Edge} {gd:Option (Nat×Bool)}
theorem PV.move {x:Operand}{v:Value}(hx:A5 L W x v):PV P C L W ⟨d,.move x,ty,ps,af,gd⟩ v:=by
 intro a N hs hW w _
 simp[execOp,hx a N hs hW,Sem.run,pure]
theorem PV.assign {x:Operand}{v:Value}(hx:A5 L W x v):PV P C L W ⟨d,.assign x,ty,ps,af,gd⟩ v:=by
 intro a N hs hW w _
 simp[execOp,hx a N hs hW,Sem.run,pure]
theorem PV.and {c x:Operand}{p q:Bool}(hc:A5 L W c (.bool p))(hx:A5 L (W&&p) x (.bool q)):PV P C L W ⟨d,.pick c x (.const (.bool false)),ty,ps,af,gd⟩ (.bool (p&&q)):=by
 intro a N hs hW w _
 simp only[execOp,hc a N hs hW]
 cases p
 ·simp[asBool,Act.eval,Sem.run,pure,bind,Sem.bind]
 ·simp[asBool,hx a N hs (by simp[hW]),Sem.run,pure,bind,Sem.bind]
theorem PV.or {c x:Operand}{p q:Bool}(hc:A5 L W c (.bool p))(hx:A5 L (W&& !p) x (.bool q)):PV P C L W ⟨d,.pick c (.const (.bool true)) x,ty,ps,af,gd⟩ (.bool (p||q)):=by
 intro a N hs hW w _
 simp only[execOp,hc a N hs hW]
 cases p
 ·simp[asBool,hx a N hs (by simp[hW]),Sem.run,pure,bind,Sem.bind]
 ·simp[asBool,Act.eval,Sem.run,pure,bind,Sem.bind]
theorem PV.un {f:Value->Sem Value}{o:Oper}{x:Operand}{vx v:Value}(ho: ∀ρ:Operand->Value,execOp ρ o=(do pure (.value (<-f (ρ x))):Sem Next))(hx:A5 L W x vx)
  (hr:W=true-> ∀w,C w->(f vx).run P w= .ok v w):PV P C L W o v:=by
 intro a N hs hW w hw
 rw[ho,hx a N hs hW]
 simp only[Sem.run_bind,hr hW w hw,Result.andThen_ok,Sem.run_pure]
theorem PV.bin {op:BinOp}{t t':TypeId}{x y:Operand}{vx vy v:Value}(hx:A5 L W x vx)(hy:A5 L W y vy)
  (hr:W=true-> ∀w,C w->(do eqGuard op t x y vx vy;binOp op t vx vy:Sem Value).run P w= .ok v w):PV P C L W ⟨d,.binOp op t x y t',ty,ps,af,gd⟩ v:=by
 intro a N hs hW w hw
 have:=hr hW w hw
 simp only[execOp,hx a N hs hW,hy a N hs hW]
 rw[Sem.run_bind,this]
 rfl
theorem PV.lss {t t':TypeId}{x y:Operand}{k:IntKind}{a b:Int}(hx:A5 L W x (.int k a))(hy:A5 L W y (.int k b)):PV P C L W ⟨d,.binOp .lss t x y t',ty,ps,af,gd⟩ (.bool (decide (a<b))):=
 .bin hx hy λ _ w _=>by simp[go_sem,binOp,Op.intCmp,Sem.run,pure,bind,Sem.bind]
theorem PV.leq {t t':TypeId}{x y:Operand}{k:IntKind}{a b:Int}(hx:A5 L W x (.int k a))(hy:A5 L W y (.int k b)):PV P C L W ⟨d,.binOp .leq t x y t',ty,ps,af,gd⟩ (.bool (decide (a<=b))):=
 .bin hx hy λ _ w _=>by simp[go_sem,binOp,Op.intCmp,Sem.run,pure,bind,Sem.bind]
theorem PV.gtr {t t':TypeId}{x y:Operand}{k:IntKind}{a b:Int}(hx:A5 L W x (.int k a))(hy:A5 L W y (.int k b)):PV P C L W ⟨d,.binOp .gtr t x y t',ty,ps,af,gd⟩ (.bool (decide (b<a))):=
 .bin hx hy λ _ w _=>by simp[go_sem,binOp,Op.intCmp,Sem.run,pure,bind,Sem.bind]
theorem PV.geq {t t':TypeId}{x y:Operand}{k:IntKind}{a b:Int}(hx:A5 L W x (.int k a))(hy:A5 L W y (.int k b)):PV P C L W ⟨d,.binOp .geq t x y t',ty,ps,af,gd⟩ (.bool (decide (b<=a))):=
 .bin hx hy λ _ w _=>by simp[go_sem,binOp,Op.intCmp,Sem.run,pure,bind,Sem.bind]
theorem PV.eql {t t':TypeId}{x y:Operand}{k:IntKind}{a b:Int}(hx:A5 L W x (.int k a))(hy:A5 L W y (.int k b)):PV P C L W ⟨d,.binOp .eql t x y t',ty,ps,af,gd⟩ (.bool (a==b)):=
 .bin hx hy λ _ w _=>by simp[go_sem,eqGuard,binOp,Op.intCmp,Sem.run,pure,bind,Sem.bind]
theorem PV.neq {t t':TypeId}{x y:Operand}{k:IntKind}{a b:Int}(hx:A5 L W x (.int k a))(hy:A5 L W y (.int k b)):PV P C L W ⟨d,.binOp .neq t x y t',ty,ps,af,gd⟩ (.bool (a != b)):=
 .bin hx hy λ _ w _=>by simp[go_sem,eqGuard,binOp,Op.intCmp,Sem.run,pure,bind,Sem.bind]
theorem PV.PN {t t':TypeId}{x y:Operand}{k:IntKind}{a b r:Int}(hx:A5 L W x (.int k a))(hy:A5 L W y (.int k b))(hr:W=true->k.wrap (a+b)=r):PV P C L W ⟨d,.binOp .add t x y t',ty,ps,af,gd⟩ (.int k r):=
 .bin hx hy λ hW w _=>by simp[go_sem,binOp,Op.intArith,Sem.run,pure,bind,Sem.bind,hr hW]
theorem PV.SD {t t':TypeId}{x y:Operand}{k:IntKind}{a b r:Int}(hx:A5 L W x (.int k a))(hy:A5 L W y (.int k b))(hr:W=true->k.wrap (a-b)=r):PV P C L W ⟨d,.binOp .sub t x y t',ty,ps,af,gd⟩ (.int k r):=
 .bin hx hy λ hW w _=>by simp[go_sem,binOp,Op.intArith,Sem.run,pure,bind,Sem.bind,hr hW]
theorem PV.SE {t t':TypeId}{x y:Operand}{k:IntKind}{a b r:Int}(hx:A5 L W x (.int k a))(hy:A5 L W y (.int k b))(hr:W=true->k.wrap (a*b)=r):PV P C L W ⟨d,.binOp .mul t x y t',ty,ps,af,gd⟩ (.int k r):=
 .bin hx hy λ hW w _=>by simp[go_sem,binOp,Op.intArith,Sem.run,pure,bind,Sem.bind,hr hW]
theorem wrap_i64{x:Int}(h: -9223372036854775808<=x/\x<=9223372036854775807):IntKind.i64.wrap x=x:=by
 simp[IntKind.wrap,IntKind.signed,IntKind.bits];omega
theorem PV.add {t t':TypeId}{x y:Operand}{a b:Int}(hx:A5 L W x (i64 a))(hy:A5 L W y (i64 b))(hr:W=true-> -9223372036854775808<=a+b/\a+b<=9223372036854775807):PV P C L W ⟨d,.binOp .add t x y t',ty,ps,af,gd⟩ (i64 (a+b)):=
 .PN hx hy λ hW=>wrap_i64 (hr hW)
theorem PV.sub {t t':TypeId}{x y:Operand}{a b:Int}(hx:A5 L W x (i64 a))(hy:A5 L W y (i64 b))(hr:W=true-> -9223372036854775808<=a-b/\a-b<=9223372036854775807):PV P C L W ⟨d,.binOp .sub t x y t',ty,ps,af,gd⟩ (i64 (a-b)):=
 .SD hx hy λ hW=>wrap_i64 (hr hW)
theorem PV.mul {t t':TypeId}{x y:Operand}{a b:Int}(hx:A5 L W x (i64 a))(hy:A5 L W y (i64 b))(hr:W=true-> -9223372036854775808<=a*b/\a*b<=9223372036854775807):PV P C L W ⟨d,.binOp .mul t x y t',ty,ps,af,gd⟩ (i64 (a*b)):=
 .SE hx hy λ hW=>wrap_i64 (hr hW)
theorem PV.mQ {t t':TypeId}{x y:Operand}{k:IntKind}{a b r:Int}(hx:A5 L W x (.int k a))(hy:A5 L W y (.int k b))(hb:W=true->b≠0)(hr:W=true->k.wrap (a.tdiv b)=r):PV P C L W ⟨d,.binOp .quo t x y t',ty,ps,af,gd⟩ (.int k r):=
 .bin hx hy λ hW w _=>by simp[go_sem,binOp,Op.intDiv,Sem.run,pure,bind,Sem.bind,hr hW,hb hW]
theorem PV.mR {t t':TypeId}{x y:Operand}{k:IntKind}{a b r:Int}(hx:A5 L W x (.int k a))(hy:A5 L W y (.int k b))(hb:W=true->b≠0)(hr:W=true->a.tmod b=r):PV P C L W ⟨d,.binOp .rem t x y t',ty,ps,af,gd⟩ (.int k r):=
 .bin hx hy λ hW w _=>by simp[go_sem,binOp,Op.intDiv,Sem.run,pure,bind,Sem.bind,hr hW,hb hW]
theorem PV.quo {t t':TypeId}{x y:Operand}{a b:Int}(hx:A5 L W x (i64 a))(hy:A5 L W y (i64 b))(hb:W=true->0<=a/\a<=9223372036854775807/\0<b):PV P C L W ⟨d,.binOp .quo t x y t',ty,ps,af,gd⟩ (i64 (a/b)):=
 .mQ hx hy (λ hW=>by have:=hb hW;omega) λ hW=>by
  obtain⟨h0,h1,h2⟩:=hb hW
  rw[Int.tdiv_eq_ediv_of_nonneg h0]
  exact wrap_i64 ⟨by have:=Int.ediv_nonneg h0 (Int.le_of_lt h2);omega,by have:=Int.ediv_le_self b h0;omega⟩
theorem PV.rem {t t':TypeId}{x y:Operand}{a b:Int}(hx:A5 L W x (i64 a))(hy:A5 L W y (i64 b))(hb:W=true->0<=a/\0<b):PV P C L W ⟨d,.binOp .rem t x y t',ty,ps,af,gd⟩ (i64 (a%b)):=
 .mR hx hy (λ hW=>by have:=hb hW;omega) λ hW=>Int.tmod_eq_emod_of_nonneg (hb hW).1
theorem PV.not {t:TypeId}{x:Operand}{b:Bool}(hx:A5 L W x (.bool b)):PV P C L W ⟨d,.unOp .not t x,ty,ps,af,gd⟩ (.bool (!b)):=
 .un (f:=Op.unary .not) (λ _=>rfl) hx λ _ w _=>by simp[Op.unary,Sem.run,pure]
theorem PV.aU {t:TypeId}{x:Operand}{k:IntKind}{a r:Int}(hx:A5 L W x (.int k a))(hr:W=true->k.wrap (-a)=r):PV P C L W ⟨d,.unOp .neg t x,ty,ps,af,gd⟩ (.int k r):=
 .un (f:=Op.unary .neg) (λ _=>rfl) hx λ hW w _=>by simp[Op.unary,Op.intArith,Sem.run,pure,hr hW]
theorem PV.BU {s t:TypeId}{x:Operand}{k k':IntKind}{a r:Int}(hx:A5 L W x (.int k a))(hs:P.underlying s=some (.int k))(ht:P.underlying t=some (.int k'))(hr:W=true->k'.wrap a=r):PV P C L W ⟨d,.convert s t x,ty,ps,af,gd⟩ (.int k' r):=
 .un (f:=convert s t) (λ _=>rfl) hx λ hW w _=>by simp[convert,run_underlying hs,run_underlying ht,Conv.intToInt,go_sem,hr hW]
theorem L1(l:A1):(ByteArray.mk ⟨l⟩).toList=l:=by rw[ByteArray.toList_eq]
theorem PV.SF {t t':TypeId}{x y:Operand}{a b:A1}(hx:A5 L W x (str a))(hy:A5 L W y (str b)):PV P C L W ⟨d,.binOp .eql t x y t',ty,ps,af,gd⟩ (.bool (a==b)):=
 .bin hx hy λ _ w _=>by simp[go_sem,eqGuard,binOp_string_eql,L1,Sem.run,pure,bind,Sem.bind]
theorem PV.M6 {t t':TypeId}{x y:Operand}{a b:A1}(hx:A5 L W x (str a))(hy:A5 L W y (str b)):PV P C L W ⟨d,.binOp .neq t x y t',ty,ps,af,gd⟩ (.bool (!(a==b))):=
 .bin hx hy λ _ w _=>by simp[go_sem,eqGuard,binOp_string_neq,L1,Sem.run,pure,bind,Sem.bind]
theorem PV.mS {t t':TypeId}{x y:Operand}{a b:A1}(hx:A5 L W x (str a))(hy:A5 L W y (str b)):PV P C L W ⟨d,.binOp .lss t x y t',ty,ps,af,gd⟩ (.bool (Op.bytesLess a b)):=
 .bin hx hy λ _ w _=>by simp[go_sem,binOp_string_lss,L1,Sem.run,pure,bind,Sem.bind]
theorem PV.mT {t t':TypeId}{x y:Operand}{a b:A1}(hx:A5 L W x (str a))(hy:A5 L W y (str b)):PV P C L W ⟨d,.binOp .leq t x y t',ty,ps,af,gd⟩ (.bool (Op.bytesLess a b||a==b)):=
 .bin hx hy λ _ w _=>by simp[go_sem,binOp,Op.stringOp,L1,Sem.run,pure,bind,Sem.bind]
theorem PV.mU {t t':TypeId}{x y:Operand}{a b:A1}(hx:A5 L W x (str a))(hy:A5 L W y (str b)):PV P C L W ⟨d,.binOp .gtr t x y t',ty,ps,af,gd⟩ (.bool (!(Op.bytesLess a b||a==b))):=
 .bin hx hy λ _ w _=>by simp[go_sem,binOp,Op.stringOp,L1,Sem.run,pure,bind,Sem.bind]
theorem PV.mV {t t':TypeId}{x y:Operand}{a b:A1}(hx:A5 L W x (str a))(hy:A5 L W y (str b)):PV P C L W ⟨d,.binOp .geq t x y t',ty,ps,af,gd⟩ (.bool (!Op.bytesLess a b)):=
 .bin hx hy λ _ w _=>by simp[go_sem,binOp,Op.stringOp,L1,Sem.run,pure,bind,Sem.bind]
theorem mW(x y:A1):(ByteArray.mk ⟨x⟩++ByteArray.mk ⟨y⟩)=ByteArray.mk ⟨x++y⟩:=ByteArray.mk_append_mk x y
theorem PV.mX {t t':TypeId}{x y:Operand}{a b:A1}(hx:A5 L W x (str a))(hy:A5 L W y (str b))(hr:W=true->len a+len b<=9223372036854775807):PV P C L W ⟨d,.binOp .add t x y t',ty,ps,af,gd⟩ (str (a++b)):=
 .bin hx hy λ hW w _=>by
  have h:=hr hW
  simp only[len]at h
  simp only[eqGuard_add,binOp_string_add,Sem.run_bind,Sem.run_pure,Result.andThen_ok]
  rw[run_string_add_sum _ _ _ (by show a.length+b.length<=_;omega),mW]
theorem PV.DD {t:TypeId}{x:Operand}{a:A1}(hx:A5 L W x (str a))(ht:P.underlying t=some .string):PV P C L W ⟨d,.call ⟨.builtin .len,#[x],#[t]⟩,ty,ps,af,gd⟩ (i64 (len a)):=by
 intro ac N hs hW w _
 have:=run_len_string w t ty ⟨⟨a⟩⟩ ht
 simp only[execOp,resolve,invoke,builtin,List.map_toArray,List.map_cons,List.map_nil,hx ac N hs hW,Sem.run_bind,Sem.run_pure,Result.andThen_ok,this]
 rfl
theorem PV.E9 {t:TypeId}{x y:Operand}{a:A1}{i:Int}{k:IntKind}(hx:A5 L W x (str a))(hy:A5 L W y (.int k i))(ht:P.underlying t=some .string)(hr:W=true->0<=i/\i<len a):PV P C L W ⟨d,.index t x y,ty,ps,af,gd⟩ (.int .u8 (A2 a i)):=by
 intro ac N hs hW w _
 obtain⟨h0,h1⟩:=hr hW
 have hlt:i.toNat<a.length:=by unfold len at h1;omega
 have hsz:i.toNat<(ByteArray.mk ⟨a⟩).size:=hlt
 have hg:(ByteArray.mk ⟨a⟩)[i.toNat]? =some a[i.toNat]:=by
  rw[ByteArray.getElem?_lt' _ _ hsz];rfl
 have key:(Instr.index t (str a) (.int k i)).run P w= .ok (.int .u8 (A2 a i)) w:=by
  simp[Instr.index,asIntOf,run_underlying ht,Sem.run_bind,h0,hg,go_sem,A2,hlt]
  rfl
 simp only[execOp,hx ac N hs hW,hy ac N hs hW]
 rw[Sem.run_bind,key]
 rfl
theorem PV.L3 {t:TypeId}{x y z:Operand}{a:A1}{i j:Int}{k k':IntKind}(hx:A5 L W x (str a))(hy:A5 L W y (.int k i))(hz:A5 L W z (.int k' j))(ht:P.underlying t=some .string)(hr:W=true->0<=i/\i<=j/\j<=len a):PV P C L W ⟨d,.slice t x (some y) (some z) none,ty,ps,af,gd⟩ (str (Eng.sub a i j)):=by
 intro ac N hs hW w _
 obtain⟨h0,h1,h2⟩:=hr hW
 have e:(ByteArray.mk ⟨a⟩).extract i.toNat j.toNat=ByteArray.mk ⟨Eng.sub a i j⟩:=ByteArray.extract_mk a i.toNat j.toNat
 simp only[execOp,hx ac N hs hW,Option.map_some,Option.map_none,hy ac N hs hW,hz ac N hs hW]
 rw[Sem.run_bind,run_sliceAt_string _ _ _ _ _ _ ht,run_slice_string _ _ _ _ _ _ _ ht h0 h1 (by show j<=(a.length:Int);exact h2),e]
 rfl
theorem PV.JJ {t:TypeId}{x y:Operand}{a:A1}{i:Int}{k:IntKind}(hx:A5 L W x (str a))(hy:A5 L W y (.int k i))(ht:P.underlying t=some .string)(hr:W=true->0<=i/\i<=len a):PV P C L W ⟨d,.slice t x (some y) none none,ty,ps,af,gd⟩ (str (A3 a i)):=by
 intro ac N hs hW w _
 obtain⟨h0,h1⟩:=hr hW
 have e:(ByteArray.mk ⟨a⟩).extract i.toNat (ByteArray.mk ⟨a⟩).size=ByteArray.mk ⟨A3 a i⟩:=by
  refine(ByteArray.extract_mk a i.toNat a.length).trans ?_
  unfold A3
  rw[List.take_of_length_le (by simp)]
 simp only[execOp,hx ac N hs hW,Option.map_some,Option.map_none,hy ac N hs hW]
 rw[Sem.run_bind,run_sliceAt_string _ _ _ _ _ _ ht,run_slice_string_l _ _ _ ht _ _ h0 (by show i<=(a.length:Int);exact h1),e]
 rfl
theorem PV.SG {t:TypeId}{x z:Operand}{a:A1}{j:Int}{k':IntKind}(hx:A5 L W x (str a))(hz:A5 L W z (.int k' j))(ht:P.underlying t=some .string)(hr:W=true->0<=j/\j<=len a):PV P C L W ⟨d,.slice t x none (some z) none,ty,ps,af,gd⟩ (str (Eng.sub a 0 j)):=by
 intro ac N hs hW w _
 obtain⟨h0,h1⟩:=hr hW
 have e:(ByteArray.mk ⟨a⟩).extract 0 j.toNat=ByteArray.mk ⟨Eng.sub a 0 j⟩:=ByteArray.extract_mk a 0 j.toNat
 simp only[execOp,hx ac N hs hW,Option.map_some,Option.map_none,hz ac N hs hW]
 rw[Sem.run_bind,run_sliceAt_string _ _ _ _ _ _ ht,run_slice_string_h _ _ _ ht _ _ h0 (by show j<=(a.length:Int);exact h1),e]
 rfl
theorem PV.ex {tp:TypeId}{x:Operand}{vs:Array Value}{i:Nat}{v:Value}(hx:A5 L W x (.tuple vs))(hi:vs[i]? =some v):PV P C L W ⟨d,.extract x i,tp,ps,af,gd⟩ v:=
 .un (f:=λ x=>Instr.extract x i) (λ _=>rfl) hx λ _ w _=>by simp[Instr.extract,hi,Sem.run,pure]
end pv
def RL(P:Program)(ops:Array Oper)(Q:Exit->Act->World->Prop)(N:Nat)(l:List Oper)(L:Env)(w:World):Prop:=
 ∀a,AF a N L->wpList P ops Q l a w
section rl
variable {P:Program} {ops:Array Oper} {Q:Exit->Act->World->Prop} {N:Nat} {rest:List Oper} {L:Env} {w:World}
theorem RL.v {d:Nat}{op:Op}{ty:TypeId}{ps:String}{af:Array Edge}{gd:Option (Nat×Bool)}{W:Bool}{v:Value}(hw:CG ops L gd W)(hp:PV P (· =w) L W ⟨some d,op,ty,ps,af,gd⟩ v)(hd:Nat.blt d N=true)
  (h:RL P ops Q N rest ((d,W,v)::L) w):RL P ops Q N (⟨some d,op,ty,ps,af,gd⟩::rest) L w:=by
 intro a hs
 refine wpList_step λ K hK=>?_
 rw[CG.wanted (o:=⟨some d,op,ty,ps,af,gd⟩) hw hs]
 have hput:=hs.put hd W v
 cases W
 ·exact hK _ _ (h _ hput)
 ·simp only[if_true,Oper.wp,hp a N hs U w U,Oper.upon_value]
  exact hK _ _ (h _ hput)
def DE(L:Env)(W:Bool):List Operand->List Value->Prop
 |[],[]=>True
 |x::xs,v::vs=>A5 L W x v/\DE L W xs vs
 |_,_=>False
theorem DE.nil {L:Env}{W:Bool}:DE L W [] []:=trivial
theorem DE.cons {L:Env}{W:Bool}{x:Operand}{v:Value}{xs:List Operand}{vs:List Value}(h:A5 L W x v)(k:DE L W xs vs):DE L W (x::xs) (v::vs):=⟨h,k⟩
theorem DE.map {L:Env}{W:Bool}{a:Act}{N:Nat}(hs:AF a N L)(hW:W=true): ∀(xs:List Operand) (vs:List Value),DE L W xs vs->xs.map a.eval=vs
 |[],[],_=>rfl
 |[],_::_,h=>h.elim
 |_::_,[],h=>h.elim
 |x::xs,v::vs,h=>by rw[List.map_cons,h.1 a N hs hW,DE.map hs hW xs vs h.2]
theorem L4{f:FuncId}(ct: ∀args w,(callFunc f args).run P w= .ok (.enter f args) w){L:Env}{W:Bool}{xs:List Operand}{vs:List Value}(hx:DE L W xs vs){a:Act}{N:Nat}(hs:AF a N L)(hW:W=true){d:Option Tmp}{tys:Array TypeId}{ty:TypeId}{ps:String}{af:Array Edge}{gd:Option (Nat×Bool)}:
  (execOp a.eval ⟨d,.call ⟨.value (.func f),xs.toArray,tys⟩,ty,ps,af,gd⟩).run P w= .ok (.enter f vs.toArray) w:=by
 have e:xs.toArray.map a.eval=vs.toArray:=by rw[List.map_toArray,DE.map hs hW xs vs hx]
 have e2:a.eval (.func f)= .func (.func f) #[] #[]:=rfl
 simp only[execOp,resolve,e,e2,Deferred.ofValue,invoke,Sem.run_bind,Sem.run_pure,Result.andThen_ok]
 simpa using ct vs.toArray w
theorem RL.FG {d:Nat}{f:FuncId}{xs:List Operand}{vs:List Value}{v:Value}{tys:Array TypeId}{ty:TypeId}{ps:String}{af:Array Edge}{gd:Option (Nat×Bool)}{W:Bool}(hw:CG ops L gd W)
  (ct: ∀args w,(callFunc f args).run P w= .ok (.enter f args) w) (hx:DE L W xs vs) (hc:W=true->Calls P f vs.toArray w (λ e w'=>e= .returned v/\w'=w)) (hd:Nat.blt d N=true)
  (h:RL P ops Q N rest ((d,W,v)::L) w):RL P ops Q N (⟨some d,.call ⟨.value (.func f),xs.toArray,tys⟩,ty,ps,af,gd⟩::rest) L w:=by
 intro a hs
 refine wpList_step λ K hK=>?_
 rw[CG.wanted (o:=⟨some d,.call ⟨.value (.func f),xs.toArray,tys⟩,ty,ps,af,gd⟩) hw hs]
 have hput:=hs.put hd W v
 cases W
 ·exact hK _ _ (h _ hput)
 ·simp only[if_true,Oper.wp,L4 ct hx hs U,Oper.upon_enter]
  refine(hc U).mono λ e w' ⟨he,hw'⟩=>?_
  subst he;subst hw'
  exact hK _ _ (h _ hput)
theorem RL.CU {d:Nat}{f:FuncId}{xs:List Operand}{vs:List Value}{tys:Array TypeId}{ty:TypeId}{ps:String}{af:Array Edge}{Post:Value->World->Prop}
  (ct: ∀args w,(callFunc f args).run P w= .ok (.enter f args) w) (hx:DE L true xs vs) (hc:Calls P f vs.toArray w (λ e w'=> ∃v,e= .returned v/\Post v w')) (hd:Nat.blt d N=true)
  (h: ∀v w',Post v w'->RL P ops Q N rest ((d,true,v)::L) w'):RL P ops Q N (⟨some d,.call ⟨.value (.func f),xs.toArray,tys⟩,ty,ps,af,none⟩::rest) L w:=by
 intro a hs
 refine wpList_plain U λ K hK=>?_
 simp only[Oper.wp,L4 ct hx hs U,Oper.upon_enter]
 refine hc.mono λ e w' ⟨v,he,hp⟩=>?_
 subst he
 exact hK _ _ (h v w' hp _ (hs.put hd true v))
end rl
def CW(P:Program)(c:Code)(Q:Exit->Act->World->Prop)(N:Nat)(L:Env)(w:World):Prop:= ∀a,AF a N L->c.wp P Q a w
section cw
variable {P:Program} {Q:Exit->Act->World->Prop} {N:Nat} {L:Env} {w:World}
theorem CW.enter {f:FuncId}{fn:Func}{c:Code}{vs:List Value}{R:Ending->World->Prop}(hf:P.funcs[f]? =some fn)(hb:fn.body=some c)(hn:fn.ntmps=N)(hl:vs.length<=N)
  (h:CW P c (bodyPost P fn R) N (JI 0 vs) w):Calls P f vs.toArray w R:=
 calls_of_wp hf hb (by rw[hn];exact h _ (AF.enter vs N hl))
theorem CW.weaken {c:Code}{L':Env}(ks:List Nat)(h:CW P c Q N L' w)(hk:Eng.BL ks L=L'):CW P c Q N L w:=λ a hs=>h a (hk▸hs.BL ks)
theorem CW.seq {x y:Code}(h:CW P x (Exit.then (y.wp P Q) Q) N L w):CW P (.seq x y) Q N L w:=λ a hs=>wp_seq (h a hs)
theorem CW.region {id:Nat}{l:List Oper}(h:RL P l.toArray Q N l L w):CW P (.region id l.toArray false) Q N L w:=λ a hs=>wp_region_lit (h a hs)
theorem CW.block {id:Nat}{c:Code}(h:CW P c (Exit.inBlock id Q) N L w):CW P (.block id c) Q N L w:=λ a hs=>wp_block (h a hs)
theorem CW.cond {c:Nat}{x y:Code}{b:Bool}(hc:look L c=some (true,.bool b))(ht:b=true->CW P x Q N L w)(hf:b=false->CW P y Q N L w):CW P (.cond (.tmp c) x y) Q N L w:=
 λ a hs=>wp_cond_split (hs.get hc) (λ hb=>ht hb a hs) (λ hb=>hf hb a hs)
theorem CW.mY {x y:Code}{b:Bool}(ht:b=true->CW P x Q N L w)(hf:b=false->CW P y Q N L w):CW P (.cond (.const (.bool b)) x y) Q N L w:=
 λ a hs=>wp_cond_split U (λ hb=>ht hb a hs) (λ hb=>hf hb a hs)
theorem CW.skip (h: ∀a,AF a N L->Q .normal a w):CW P .skip Q N L w:=λ a hs=>wp_skip (h a hs)
theorem CW.exit {id:Nat}(h: ∀a,AF a N L->Q (.exit id) a w):CW P (.exit id) Q N L w:=λ a hs=>wp_exit (h a hs)
theorem CW.ret (h: ∀a,AF a N L->Q .ret a w):CW P .ret Q N L w:=λ a hs=>wp_ret (h a hs)
theorem CW.on {y:Code}{Q':Exit->Act->World->Prop}{L':Env}(ks:List Nat)(hk:Eng.BL ks L=L')(h:CW P y Q' N L' w): ∀a,AF a N L->y.wp P Q' a w:=λ a hs=>h a (hk▸hs.BL ks)
theorem RL.nil {ops:Array Oper}(h: ∀a,AF a N L->Q .normal a w):RL P ops Q N [] L w:=λ a hs=>wpList_nil (h a hs)
theorem CW.loop {σ:Type}{c:Code}(Lf:σ->Env)(I:σ->World->Prop)(μ:σ->Nat)(s₀:σ)(ks:List Nat)(hL:Eng.BL ks L=Lf s₀)(h₀:I s₀ w)
  (round: ∀s w,I s w->CW P c (Exit.then (λ a' w'=> ∃s',AF a' N (Lf s')/\I s' w'/\μ s'<μ s) Q) N (Lf s) w):CW P (.loop c) Q N L w:=by
 intro a hs b k cs
 have key: ∀n s a w,μ s=n->I s w->AF a N (Lf s)->
   ∃e a' w',Q e a' w'/\Arrives P (lone (b.at a (.code c:: .inLoop c::k)) cs w) b k cs e a' w':=by
  intro n
  induction n using Nat.strongRecOn with
  |_ n ih=>
   intro s a w hn hI hsl
   obtain⟨e,a₁,w₁,hq,harr⟩:=round s w hI a hsl b (.inLoop c::k) cs
   cases e with
   |normal=>
    obtain⟨s',hsl',hI',hlt⟩:=hq
    obtain⟨e₂,a₂,w₂,hq₂,harr₂⟩:=ih (μ s') (hn▸hlt) s' a₁ w₁ rfl hI' hsl'
    exact⟨e₂,a₂,w₂,hq₂,.of_steps (Steps.trans harr (.one step_inLoop)) harr₂⟩
   |exit id=>exact⟨_,a₁,w₁,hq,.pass (x:=.inLoop c) U (λ _ _=>.inl (by simp)) harr⟩
   |goto l=>exact⟨_,a₁,w₁,hq,.pass (x:=.inLoop c) U (λ _ _=>.inl (by simp)) harr⟩
   |ret=>exact⟨_,a₁,w₁,hq,.pass (x:=.inLoop c) U (λ _ _=>.inl (by simp)) harr⟩
   |panic ch=>exact⟨_,a₁,w₁,hq,.pass (x:=.inLoop c) U (λ _ _=>.inl (by simp)) harr⟩
   |outgrown=>exact⟨_,a₁,w₁,hq,.pass (x:=.inLoop c) U (λ _ _=>.inl (by simp)) harr⟩
 obtain⟨e,a',w',hq,harr⟩:=key _ s₀ a w rfl h₀ (hL▸hs.BL ks)
 exact⟨e,a',w',hq,.of_steps (.one step_loop) harr⟩
theorem mZ{fn:Func}{R:Ending->World->Prop}{t:Tmp}{v:Value}(hr:fn.results= #[.tmp t])(hl:look L t=some (true,v))(h:R (.returned v) w): ∀a,AF a N L->bodyPost P fn R .ret a w:=
 λ a hs=>bodyPost_ret (results_tmp hr _ _ _) hs.CD (by rw[hs.get hl];exact h)
theorem n5{fn:Func}{R:Ending->World->Prop}{t u:Tmp}{v x:Value}(hr:fn.results= #[.tmp t,.tmp u])(hl:look L t=some (true,v))(hl2:look L u=some (true,x))(h:R (.returned (.tuple #[v,x])) w): ∀a,AF a N L->bodyPost P fn R .ret a w:=
 λ a hs=>bodyPost_ret (results_tmp2 hr _ _ _) hs.CD (by rw[hs.get hl,hs.get hl2];exact h)
theorem n7{fn:Func}{R:Ending->World->Prop}{t u s:Tmp}{v x y:Value}(hr:fn.results= #[.tmp t,.tmp u,.tmp s])(hl:look L t=some (true,v))(hl2:look L u=some (true,x))(hl3:look L s=some (true,y))(h:R (.returned (.tuple #[v,x,y])) w): ∀a,AF a N L->bodyPost P fn R .ret a w:=
 λ a hs=>bodyPost_ret (v:=.tuple #[v,x,y]) (by simp[results,hr,Sem.run_bind,Sem.run_pure,hs.get hl,hs.get hl2,hs.get hl3,<-Array.getD_eq_getD_getElem?]) hs.CD h
end cw
end Go.Eng
namespace Go.Eng
open Go.RowKit
abbrev Mem:=Nat->Nat->Option Value
abbrev nM:Mem:=λ _ _=>none
abbrev Ext(w w':World):Prop:=Below w.heap.size w w'
theorem Ext.refl (w:World):Ext w w:=Below.refl _ _
theorem Ext.trans {a b c:World}(h:Ext a b)(k:Ext b c):Ext a c:=Below.trans h (Below.mono k h.size)
theorem Ext.alloc (w:World)(o:Obj):Ext w (w.alloc o):=(Below.refl _ _).alloc (Nat.le_refl _) o
theorem Ext.drew (w:World):Ext w w.drew:=(Below.refl _ _).drew
theorem lt_of_cell{w:World}{b o:Nat}{v:Value}(h:w.cell? ⟨b,o,none⟩=some v):b<w.heap.size:=by
 rcases Nat.lt_or_ge b w.heap.size with h'|h'
 ·exact h'
 ·simp[World.cell?,h']at h
structure Sat (w:World) (M:Mem):Prop where
 cell: ∀b o v,M b o=some v->w.cell? ⟨b,o,none⟩=some v
theorem Sat.lt {w:World}{M:Mem}(h:Sat w M){b o:Nat}{v:Value}(hv:M b o=some v):b<w.heap.size:=lt_of_cell (h.cell b o v hv)
theorem Sat.ext {w w':World}{M:Mem}(h:Sat w M)(e:Ext w w'):Sat w' M:=
 ⟨λ b o v hv=>(e.cell (p:=⟨b,o,none⟩) (h.lt hv)).trans (h.cell b o v hv)⟩
structure Grow (w:World) (M:Mem) (w':World) (M':Mem):Prop where
 ext:Ext w w'
 sat:Sat w' M'
 old: ∀b o,b<w.heap.size->M' b o=M b o
def Mem.le (M M':Mem):Prop:= ∀b o v,M b o=some v->M' b o=some v
theorem Mem.le.refl (M:Mem):M.le M:=λ _ _ _ h=>h
theorem Mem.le.trans {M N K:Mem}(h:M.le N)(k:N.le K):M.le K:=λ b o v hv=>k b o v (h b o v hv)
theorem Grow.le {w w':World}{M M':Mem}(g:Grow w M w' M')(hs:Sat w M):M.le M':=λ b o v h=>(g.old b o (hs.lt h)).trans h
theorem Grow.trans {w w' w'':World}{M M' M'':Mem}(g:Grow w M w' M')(k:Grow w' M' w'' M''):Grow w M w'' M'':=
 ⟨g.ext.trans k.ext,k.sat,λ b o hb=>(k.old b o (Nat.lt_of_lt_of_le hb g.ext.size)).trans (g.old b o hb)⟩
inductive HO where
 |box (b:Nat) (cs:List Value) (t:TypeId)
 |own (e:TypeId) (sz:Nat) (v:Value) (n:Nat) (xs:List Value)
 |raw (b:Nat) (o:Obj)
 |priv (e:TypeId) (sz:Nat) (v:Value) (n:Nat) (xs:List Value)
def HO.DF:HO->Option Nat
 | .box b _ _=>some b
 | .own _ _ v _ _=>v.ownBlock
 | .raw b _=>some b
 | .priv _ _ v _ _=>v.ownBlock
def HO.ok (base:Nat)(w:World)(M:Mem):HO->Prop
 | .box b cs t=>base<=b/\w.heap[b]? =some (.cells cs.toArray t (0,0))/\ ∀o,M b o=none
 | .own e sz v n xs=>w.ownsRow base e sz v n xs/\ ∀b,v.ownBlock=some b->(∀o,o<xs.length->M b o=xs[o]?)/\(∀o,xs.length<=o->M b o=none)
 | .raw b o=>base<=b/\w.heap[b]? =some o/\ ∀o',M b o'=none
 | .priv e sz v n xs=>w.ownsRow base e sz v n xs/\ ∀b,v.ownBlock=some b-> ∀o,M b o=none
structure St (w0:World) (M0:Mem) (w:World) (M:Mem) (Hs:List HO):Prop where
 low:Below w0.heap.size w0 w
 sat:Sat w M
 old: ∀b o,b<w0.heap.size->M b o=M0 b o
 ok: ∀x∈Hs,x.ok w0.heap.size w M
 apart:Hs.Pairwise (λ x y=> ∀b,x.DF=some b->y.DF≠some b)
theorem aV{w w':World}{base:Nat}{e:TypeId}{sz n:Nat}{v:Value}{xs:List Value}(h:w.ownsRow base e sz v n xs)(hb: ∀b,v.ownBlock=some b->w'.heap[b]? =w.heap[b]?):w'.ownsRow base e sz v n xs:=by
 obtain⟨h1,h2⟩:=h
 refine⟨h1,?_⟩
 rcases h2 with h2|⟨g,cap,cur,hv,hg,hh,r⟩
 ·exact .inl h2
 ·exact .inr ⟨g,cap,cur,hv,hg,by rw[hb g (by rw[hv];rfl)];exact hh,r⟩
theorem HO.SH {base:Nat}{w w':World}{M M':Mem}{x:HO}(h:x.ok base w M)(hb: ∀b,x.DF=some b->w'.heap[b]? =w.heap[b]?)(hm: ∀b,x.DF=some b-> ∀o,M' b o=M b o):x.ok base w' M':=by
 cases x with
 |box b cs t=>exact⟨h.1,(hb b U).trans h.2.1,λ o=>(hm b U o).trans (h.2.2 o)⟩
 |own e sz v n xs=>exact⟨aV h.1 hb,λ b hv=>⟨λ o ho=>(hm b hv o).trans ((h.2 b hv).1 o ho),λ o ho=>(hm b hv o).trans ((h.2 b hv).2 o ho)⟩⟩
 |raw b o=>exact⟨h.1,(hb b U).trans h.2.1,λ o=>(hm b U o).trans (h.2.2 o)⟩
 |priv e sz v n xs=>exact⟨aV h.1 hb,λ b hv o=>(hm b hv o).trans (h.2 b hv o)⟩
theorem HO.ok.lt {base:Nat}{w:World}{M:Mem}{x:HO}(h:x.ok base w M){b:Nat}(hb:x.DF=some b):base<=b/\b<w.heap.size:=by
 cases x with
 |box b' cs t=>
  simp only[HO.DF,Option.some.injEq]at hb;subst hb
  refine⟨h.1,?_⟩
  rcases Nat.lt_or_ge b' w.heap.size with h'|h'
  ·exact h'
  ·have:=h.2.1;simp[h']at this
 |own e sz v n xs=>exact World.ownsRow.lt h.1 b hb
 |priv e sz v n xs=>exact World.ownsRow.lt h.1 b hb
 |raw b' o=>
  simp only[HO.DF,Option.some.injEq]at hb;subst hb
  refine⟨h.1,?_⟩
  rcases Nat.lt_or_ge b' w.heap.size with h'|h'
  ·exact h'
  ·have:=h.2.1;simp[h']at this
theorem aW{α:Type}: ∀(l:List α) (i:Nat) (h:i<l.length),(l[i]::l.eraseIdx i).Perm l
 |[],_,h=>by simp at h
 |x::l,0,_=>by simp
 |x::l,i+1,h=>by
  simp only[List.getElem_cons_succ,List.eraseIdx_cons_succ]
  exact(List.Perm.swap x _ _).trans ((aW l i (by simpa using h)).cons x)
section st
variable {w0 w w':World} {M0 M M':Mem} {Hs:List HO}
theorem St.start (hs:Sat w M):St w M w M []:=⟨Below.refl _ _,hs,λ _ _ _=>rfl,λ _ h=>(List.not_mem_nil h).elim,.nil⟩
theorem St.size (h:St w0 M0 w M Hs):w0.heap.size<=w.heap.size:=h.low.size
theorem St.ext (h:St w0 M0 w M Hs)(e:Ext w w'):St w0 M0 w' M Hs:=
 ⟨h.low.trans (e.mono h.size),h.sat.ext e,h.old,λ x hx=>HO.SH (h.ok x hx) (λ _ hb=>e.block _ (HO.ok.lt (h.ok x hx) hb).2) (λ _ _ _=>rfl),h.apart⟩
theorem St.grow (h:St w0 M0 w M Hs)(g:Grow w M w' M'):St w0 M0 w' M' Hs:=
 ⟨h.low.trans (g.ext.mono h.size),g.sat,λ b o hb=>(g.old b o (Nat.lt_of_lt_of_le hb h.size)).trans (h.old b o hb),λ x hx=>HO.SH (h.ok x hx) (λ _ hb=>g.ext.block _ (HO.ok.lt (h.ok x hx) hb).2) (λ _ hb o=>g.old _ o (HO.ok.lt (h.ok x hx) hb).2),h.apart⟩
theorem St.done (h:St w0 M0 w M Hs):Grow w0 M0 w M:=⟨h.low,h.sat,h.old⟩
theorem St.obj (h:St w0 M0 w M Hs){i:Nat}{x:HO}(hi:Hs[i]? =some x):x.ok w0.heap.size w M:=h.ok x (List.mem_of_getElem? hi)
theorem St.PO (h:St w0 M0 w M Hs){b:Nat}(hb:w.heap.size<=b)(o:Nat):M b o=none:=by
 cases e:M b o with
 |none=>rfl
 |some v=>have:=h.sat.lt e;omega
theorem heap_alloc_new(w:World)(o:Obj):(w.alloc o).heap[w.heap.size]? =some o:=by
 show(w.heap.push o)[w.heap.size]? =some o
 simp
theorem St.aX (h:St w0 M0 w M Hs)(cs:List Value)(t:TypeId):St w0 M0 (w.alloc (.cells cs.toArray t)) M (.box w.heap.size cs t::Hs):=by
 have h1:=h.ext (Ext.alloc w (.cells cs.toArray t))
 refine⟨h1.low,h1.sat,h1.old,λ x hx=>?_,List.pairwise_cons.2 ⟨λ y hy b hb=>?_,h.apart⟩⟩
 ·rcases List.mem_cons.1 hx with rfl|hx
  ·exact⟨h.size,heap_alloc_new _ _,λ o=>h.PO (Nat.le_refl _) o⟩
  ·exact h1.ok x hx
 ·simp only[HO.DF,Option.some.injEq]at hb;subst hb
  intro hy'
  have:=(HO.ok.lt (h.ok y hy) hy').2
  omega
theorem NL(w:World)(g:Nat)(cs old:Array Value)(t:TypeId)(fz:Nat×Nat)(h:w.heap[g]? =some (.cells old t fz)):(w.setRow g cs).heap[g]? =some (.cells cs t fz):=by
 simp[World.setRow,Array.getElem?_modify,h]
theorem M7(w:World)(g k:Nat)(cs:Array Value)(h:k≠g):(w.setRow g cs).heap[k]? =w.heap[k]?:=by
 simp only[World.setRow,Array.getElem?_modify]
 rw[if_neg (by omega)]
theorem size_setRow(w:World)(g:Nat)(cs:Array Value):(w.setRow g cs).heap.size=w.heap.size:=by simp[World.setRow]
theorem SI{B:Nat}{w:World}{g:Nat}(cs:Array Value)(hg:B<=g):Below B w (w.setRow g cs):=
 ⟨rfl,rfl,rfl,by rw[size_setRow];exact Nat.le_refl _,λ k hk=>M7 _ _ _ _ (by omega)⟩
theorem SJ{Hs:List HO}(h:Hs.Pairwise (λ x y=> ∀b,x.DF=some b->y.DF≠some b)){i j:Nat}{x y:HO}(hi:Hs[i]? =some x)(hj:Hs[j]? =some y)(hij:i≠j): ∀b,x.DF=some b->y.DF≠some b:=by
 rw[List.pairwise_iff_getElem]at h
 have hi':=List.getElem?_eq_some_iff.1 hi
 have hj':=List.getElem?_eq_some_iff.1 hj
 obtain⟨li,ei⟩:=hi'
 obtain⟨lj,ej⟩:=hj'
 rcases Nat.lt_or_gt_of_ne hij with hlt|hlt
 ·have:=h i j li lj hlt;rw[ei,ej]at this;exact this
 ·have:=h j i lj li hlt;rw[ei,ej]at this
  intro b hb hb';exact this b hb' hb
theorem St.write (h:St w0 M0 w M Hs){i:Nat}{x x':HO}(hi:Hs[i]? =some x)(hw:Below w0.heap.size w w')(hsat:Sat w' M')(hold: ∀b o,b<w0.heap.size->M' b o=M b o)
  (hheap: ∀b,b<w.heap.size->x.DF≠some b->w'.heap[b]? =w.heap[b]?) (hmem: ∀b,b<w.heap.size->x.DF≠some b-> ∀o,M' b o=M b o)
  (hx':x'.ok w0.heap.size w' M') (hblk: ∀b,x'.DF=some b->x.DF=some b\/w.heap.size<=b):St w0 M0 w' M' (Hs.set i x'):=by
 have hlt:i<Hs.length:=(List.getElem?_eq_some_iff.1 hi).1
 have hother: ∀j y,(Hs.set i x')[j]? =some y->j≠i->Hs[j]? =some y:=λ j y hj hne=>by
  rwa [List.getElem?_set_ne (Ne.symm hne)]at hj
 have hself:(Hs.set i x')[i]? =some x':=by simp[hlt]
 refine⟨h.low.trans hw,hsat,λ b o hb=>(hold b o hb).trans (h.old b o hb),λ y hy=>?_,?_⟩
 ·obtain⟨j,hj⟩:=List.getElem?_of_mem hy
  by_cases hji:j=i
  ·subst hji;rw[hself]at hj;cases hj;exact hx'
  ·have hj':=hother j y hj hji
   have hap:=SJ h.apart hj' hi hji
   have hyok:=h.obj hj'
   exact HO.SH hyok (λ b hb=>hheap b (HO.ok.lt hyok hb).2 (λ hx=>hap b hb hx)) (λ b hb o=>hmem b (HO.ok.lt hyok hb).2 (λ hx=>hap b hb hx) o)
 ·rw[List.pairwise_iff_getElem]
  intro j k lj lk hjk b hbj hbk
  have ej:(Hs.set i x')[j]? =some (Hs.set i x')[j]:=List.getElem?_eq_getElem lj
  have ek:(Hs.set i x')[k]? =some (Hs.set i x')[k]:=List.getElem?_eq_getElem lk
  by_cases h1:j=i
  ·subst h1
   have ek':=hother k _ ek (by omega)
   have e1:(Hs.set j x')[j]=x':=by simp
   rw[e1]at hbj
   rcases hblk b hbj with h2|h2
   ·exact SJ h.apart hi ek' (by omega) b h2 hbk
   ·have:=(HO.ok.lt (h.obj ek') hbk).2;omega
  ·have ej':=hother j _ ej h1
   by_cases h2:k=i
   ·subst h2
    have e1:(Hs.set k x')[k]=x':=by simp
    rw[e1]at hbk
    rcases hblk b hbk with h3|h3
    ·exact SJ h.apart ej' hi h1 b hbj h3
    ·have:=(HO.ok.lt (h.obj ej') hbj).2;omega
   ·exact SJ h.apart ej' (hother k _ ek h2) (by omega) b hbj hbk
theorem St.PQ (h:St w0 M0 w M Hs){i b:Nat}{cs:List Value}{t:TypeId}(hi:Hs[i]? =some (.box b cs t))(cs':List Value):St w0 M0 (w.setRow b cs'.toArray) M (Hs.set i (.box b cs' t)):=by
 obtain⟨h1,h2,h3⟩:=h.obj hi
 have hlt:=(HO.ok.lt (h.obj hi) U).2
 refine h.write hi (SI _ h1) ⟨λ b' o v hv=>?_⟩ (λ _ _ _=>rfl) (λ k _ hk=>M7 _ _ _ _ (λ e=>hk (by rw[e];rfl))) (λ _ _ _ _=>rfl) ⟨h1,NL _ _ _ _ _ _ h2,h3⟩ (λ _ hb=>.inl hb)
 have hne:b'≠b:=λ e=>by rw[e,h3 o]at hv;cases hv
 have:=h.sat.cell b' o v hv
 simp only[World.cell?,M7 _ _ _ _ hne]at this ⊢
 exact this
theorem St.drop (h:St w0 M0 w M Hs)(Hs':List HO)(hsub:Hs'.Sublist Hs):St w0 M0 w M Hs':=⟨h.low,h.sat,h.old,λ x hx=>h.ok x (hsub.subset hx),h.apart.sublist hsub⟩
theorem St.MA (h:St w0 M0 w M Hs)(o:Obj):St w0 M0 (w.alloc o) M (.raw w.heap.size o::Hs):=by
 have h1:=h.ext (Ext.alloc w o)
 refine⟨h1.low,h1.sat,h1.old,λ x hx=>?_,List.pairwise_cons.2 ⟨λ y hy b hb=>?_,h.apart⟩⟩
 ·rcases List.mem_cons.1 hx with rfl|hx
  ·exact⟨h.size,heap_alloc_new _ _,λ o=>h.PO (Nat.le_refl _) o⟩
  ·exact h1.ok x hx
 ·simp only[HO.DF,Option.some.injEq]at hb;subst hb
  intro hy'
  have:=(HO.ok.lt (h.ok y hy) hy').2
  omega
def EL(w:World)(b:Nat)(o:Obj):World:= { w with heap:=w.heap.setIfInBounds b o}
theorem St.NM (h:St w0 M0 w M Hs){i b:Nat}{o:Obj}(hi:Hs[i]? =some (.raw b o))(o':Obj):St w0 M0 (EL w b o') M (Hs.set i (.raw b o')):=by
 obtain⟨h1,h2,h3⟩:=h.obj hi
 have hlt:=(HO.ok.lt (h.obj hi) U).2
 have hne: ∀k,k≠b->(EL w b o').heap[k]? =w.heap[k]?:=λ k hk=>by simp[EL,Array.getElem?_setIfInBounds_ne (Ne.symm hk)]
 refine h.write hi ⟨rfl,rfl,rfl,by simp[EL],λ k hk=>hne k (by omega)⟩ ⟨λ b' o v hv=>?_⟩ (λ _ _ _=>rfl) (λ k _ hk=>hne k (λ e=>hk (by rw[e];rfl))) (λ _ _ _ _=>rfl) ⟨h1,by simp[EL,hlt],h3⟩ (λ _ hb=>.inl hb)
 have hb:b'≠b:=λ e=>by rw[e,h3 o]at hv;cases hv
 have:=h.sat.cell b' o v hv
 simp only[World.cell?,hne b' hb]at this ⊢
 exact this
theorem St.perm (h:St w0 M0 w M Hs){Hs':List HO}(hp:Hs'.Perm Hs):St w0 M0 w M Hs':=
 ⟨h.low,h.sat,h.old,λ x hx=>h.ok x (hp.mem_iff.1 hx),(hp.pairwise_iff (λ{x y} hxy b hb hb'=>hxy b hb' hb)).2 h.apart⟩
theorem St.front (h:St w0 M0 w M Hs)(i:Nat){x:HO}{Hs':List HO}(hi:Hs[i]? =some x)(he:x::Hs.eraseIdx i=Hs'):St w0 M0 w M Hs':=by
 subst he
 obtain⟨hl,e⟩:=List.getElem?_eq_some_iff.1 hi
 subst e
 exact h.perm (aW Hs i hl)
theorem St.erase (h:St w0 M0 w M Hs)(i:Nat){Hs':List HO}(he:Hs.eraseIdx i=Hs'):St w0 M0 w M Hs':=h.drop Hs' (he▸List.eraseIdx_sublist _ _)
end st
end Go.Eng
