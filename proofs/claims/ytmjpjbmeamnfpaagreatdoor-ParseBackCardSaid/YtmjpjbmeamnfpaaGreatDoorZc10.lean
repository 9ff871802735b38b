/-
  Parts Xh Xi Xj EngM, put together and made short by wip/py/merge.py (mini.py).
-/
import Derived.Test.YtmjpjbmeamnfpaaGreatDoorZc9
import Derived.Test.YtmjpjbmeamnfpaaGreatDoorZc4
import Derived.Test.YtmjpjbmeamnfpaaGreatDoorZc0
set_option linter.unusedVariables false
set_option linter.unusedSimpArgs false
namespace Go.Eng
open Go.RowKit
universe u
structure XS:Type 1 where
 F:List (Nat×Kn)
 H:List (Nat×HX)
 L:XE
structure Cx where
 P:Program
 N:Nat
 w0:World
 M0:Mem
 M1:Mem
 Hr:List HO
 T:TT
 hT:EN P T
 W:Wk P
structure DX (c:Cx) (F:List (Nat×Kn)) (H:List (Nat×HX)) (w:World) (M:Mem):Prop where
 st:St c.w0 c.M0 w M (HD H++c.Hr)
 f:BJ M F
 le:c.M1.le M
def JR(c:Cx)(s:XS)(a:Act)(w:World):Prop:=AK a c.N s.L.d/\ ∃M,DX c s.F s.H w M
inductive Fr:Type 1 where
 |seq (y:Code)
 |block (id:Nat)
 |scope
 |loop (J:XS->Prop)
def post(c:Cx)(B:Exit->Act->World->Prop):List Fr->(Exit->Act->World->Prop)
 |[]=>B
 | .seq y::k=>Exit.then (c.W.wp y (post c B k)) (post c B k)
 | .block id::k=>Exit.inBlock id (post c B k)
 | .scope::k=>Exit.noGoto (post c B k)
 | .loop J::k=>Exit.then (λ a w=> ∃s,J s/\JR c s a w) (post c B k)
inductive Md where
 |code (c:Code)
 |ops (all:Array Oper) (l:List Oper)
 |br (b:Bool) (x y:Code)
 |next
 |exit (id:Nat)
 |ret
def XG(c:Cx)(B:Exit->Act->World->Prop)(k:List Fr)(m:Md)(s:XS):Prop:= ∀a w,JR c s a w->match m with
 | .code x=>c.W.wp x (post c B k) a w
 | .ops all l=>c.W.list all (post c B k) l a w
 | .br b x y=>c.W.wp (if b=true then x else y) (post c B k) a w
 | .next=>post c B k .normal a w
 | .exit id=>post c B k (.exit id) a w
 | .ret=>post c B k .ret a w
structure SA:Type 1 where
 k:List Fr
 m:Md
 s:XS
 O:Prop
 E:List Ck
def JS(
     all:Array Oper) (L:XE) (gd:Option (Nat×Bool)):Option Gd:=
 match gd with
 |none=>some .t
 |some (
     j,want)=>match nth all.toList j with
  |some o=>match o.dst with
   |some d=>match BL L d with
    |some (g,v)=>match LM v with
     |some b=>match want with
      |true=>match g with
       | .t=>some (.g b)
       | .g a=>some (.g (a&&b))
      |false=>match g with
       | .t=>some (.g (!b))
       | .g a=>some (.g (a&& !b))
     |none=>none
    |none=>none
   |none=>none
  |none=>none
def imp(W:Gd):List Prop->Prop->(Prop->SA)->SA
 |[],O,K=>K O
 |p::ps,O,K=>match W with
  | .t=>imp W ps (p/\O) K
  | .g b=>imp W ps ((b=false\/p)/\O) K
def SB(F:List (Nat×Kn))(H:List (Nat×HX)):List XV->Option (List Ck)
 |[]=>some []
 |x::l=>match SB F H l with
  |some E=>match x with
   | .v u=>match u.oneCell' with
    |true=>some E
    |false=>none
   | .sl k u=>match NU F H k with
    |some (@Kn.mk α inh kv sz l f g' hg')=>some (.v u kv::E)
    |none=>none
   | .el _ _ _ _ _=>some E
   | .bx _ _ _=>some E
   |_=>none
  |none=>none
def Z4(T:TT)(F:List (Nat×Kn))(H:List (Nat×HX))(L:XE)(t:TypeId)(x y:Operand):Option (List (Nat×HX)×List Ck):=
 match KL L .t x y with
 |some (
     a,v,E)=>match a with
  | .bx k b o=>match J3 H k with
   |some (
       .box b' cs t')=>match HP T t with
    |some ⟨_,n,_⟩=>match cellsOf v with
     |some vs=>match Nat.beq vs.length n with
      |true=>match SB F H vs with
       |some E1=>match JQ cs o vs with
        |some cs'=>some (ES H k (.box b' cs' t'),.n b b'::(E1++E))
        |none=>none
       |none=>none
      |false=>none
     |none=>none
    |none=>none
   |_=>none
  |_=>none
 |none=>none
def exec(
     T:TT) (N:Nat):Nat->List Fr->Md->List (Nat×Kn)->List (Nat×HX)->XE->Prop->List Ck->SA
 |0,k,m,F,H,L,O,E=>⟨k,m,⟨F,H,L⟩,O,E⟩
 |n+1,k,m,F,H,L,O,E=>match m with
  | .code c=>match c with
   | .skip=>exec T N n k .next F H L O E
   | .seq x y=>exec T N n (.seq y::k) (.code x) F H L O E
   | .region id all draw=>match draw with
    |false=>exec T N n k (.ops all all.toList) F H L O E
    |true=>⟨k,m,⟨F,H,L⟩,O,E⟩
   | .block id x=>exec T N n (.block id::k) (.code x) F H L O E
   | .scope x=>exec T N n (.scope::k) (.code x) F H L O E
   | .exit id=>exec T N n k (.exit id) F H L O E
   | .ret=>⟨[],.ret,⟨F,H,L⟩,O,E⟩
   | .cond x a b=>match C9 L .t x with
    |some (v,E')=>match LM v with
     |some p=>⟨k,.br p a b,⟨F,H,L⟩,O,E'++E⟩
     |none=>⟨k,m,⟨F,H,L⟩,O,E⟩
    |none=>⟨k,m,⟨F,H,L⟩,O,E⟩
   |_=>⟨k,m,⟨F,H,L⟩,O,E⟩
  | .next=>match k with
   | .seq y::k'=>exec T N n k' (.code y) F H L O E
   | .block _::k'=>exec T N n k' .next F H L O E
   | .scope::k'=>exec T N n k' .next F H L O E
   |_=>⟨k,m,⟨F,H,L⟩,O,E⟩
  | .exit id=>match k with
   | .block id'::k'=>match Nat.beq id id' with
    |true=>exec T N n k' .next F H L O E
    |false=>exec T N n k' (.exit id) F H L O E
   | .seq _::k'=>exec T N n k' (.exit id) F H L O E
   | .scope::k'=>exec T N n k' (.exit id) F H L O E
   | .loop _::k'=>exec T N n k' (.exit id) F H L O E
   |[]=>⟨k,m,⟨F,H,L⟩,O,E⟩
  | .ops all l=>match l with
   |[]=>exec T N n k .next F H L O E
   |⟨dst,op,ty,ps,af,gd⟩::rest=>match dst with
    |some d=>match JS all L gd with
     |some W=>match Q2 T F H L W op with
      |some (v,p,E')=>match Nat.blt d N with
       |true=>imp W p O λ O'=>exec T N n k (.ops all rest) F H ((d,W,v)::L) O' (E'++E)
       |false=>⟨k,m,⟨F,H,L⟩,O,E⟩
      |none=>⟨k,m,⟨F,H,L⟩,O,E⟩
     |none=>⟨k,m,⟨F,H,L⟩,O,E⟩
    |none=>match gd with
     |none=>match op with
      | .store t x y=>match Z4 T F H L t x y with
       |some (H',E')=>exec T N n k (.ops all rest) F H' L O (E'++E)
       |none=>⟨k,m,⟨F,H,L⟩,O,E⟩
      |_=>⟨k,m,⟨F,H,L⟩,O,E⟩
     |some _=>⟨k,m,⟨F,H,L⟩,O,E⟩
  |_=>⟨k,m,⟨F,H,L⟩,O,E⟩
def SC{α:Type u}:List (Nat×α)->Option (List (Nat×α))
 |[]=>some []
 |(k,x)::L=>match SC L with
  |some L'=>some ((k,x)::L')
  |none=>none
theorem Z5{α:Type u}: ∀ {L L':List (Nat×α)},SC L=some L'->L'=L
 |[],_,h=>by cases h;rfl
 |(k,x)::L,L',h=>by
  unfold SC at h
  split at h
  ·rename_i L2 h2;cases h;rw[Z5 h2]
  ·cases h
def V9:XE->Option XE
 |[]=>some []
 |(k,g,v)::L=>match V9 L with
  |some L'=>some ((k,g,v)::L')
  |none=>none
theorem gS: ∀ {L L':XE},V9 L=some L'->L'=L
 |[],_,h=>by cases h;rfl
 |(k,g,v)::L,L',h=>by
  unfold V9 at h
  split at h
  ·rename_i L2 h2;cases h;rw[gS h2]
  ·cases h
def run(T:TT)(N:Nat)(k:List Fr)(m:Md)(s:XS):SA:=
 match s with
 |⟨F,H,L⟩=>match SC F with
  |some F'=>match SC H with
   |some H'=>match V9 L with
    |some L'=>exec T N 10000 k m F' H' L' ((0:Int)=0) []
    |none=>exec T N 10000 k m F H L ((0:Int)=0) []
   |none=>exec T N 10000 k m F H L ((0:Int)=0) []
  |none=>exec T N 10000 k m F H L ((0:Int)=0) []
theorem Z6{W:Gd}{K:Prop->SA}: ∀ {ps:List Prop} {O:Prop},∃O',imp W ps O K=K O'/\(O'->(W.d=true->HQ ps)/\O)
 |[],O=>⟨O,rfl,λ h=>⟨λ _=>trivial,h⟩⟩
 |p::ps,O=>by
  unfold imp
  cases W with
  |t=>
   obtain⟨O',h1,h2⟩:=Z6 (W:=.t) (K:=K) (ps:=ps) (O:=p/\O)
   exact⟨O',h1,λ h=>⟨λ hW=>⟨(h2 h).2.1,(h2 h).1 hW⟩,(h2 h).2.2⟩⟩
  |g b=>
   obtain⟨O',h1,h2⟩:=Z6 (W:=.g b) (K:=K) (ps:=ps) (O:=(b=false\/p)/\O)
   exact⟨O',h1,λ h=>⟨λ hW=>⟨(h2 h).2.1.resolve_left (by rw[show b=true from hW];decide),(h2 h).1 hW⟩,(h2 h).2.2⟩⟩
section
variable {c:Cx} {B:Exit->Act->World->Prop} {k:List Fr} {s:XS}
theorem SD(a:Act)(w:World)(h:B .ret a w): ∀k:List Fr,post c B k .ret a w
 |[]=>h
 | .seq _::k=>SD a w h k
 | .block _::k=>SD a w h k
 | .scope::k=>SD a w h k
 | .loop _::k=>SD a w h k
theorem MT{all:Array Oper}{L:XE}{gd:Option (Nat×Bool)}{W:Gd}(h:JS all L gd=some W):D0 all L.d gd W.d:=by
 unfold JS at h
 split at h
 ·cases h;exact .none
 ·rename_i j want
  split at h
  ·rename_i o ho
   split at h
   ·rename_i d hd
    split at h
    ·rename_i g v hl
     split at h
     ·rename_i b hb
      have:=NV hb;subst this
      have hl':=HN hl
      have hj:(all[j]?).bind (·.dst)=some d:=by
       rw[H0]at ho
       simp only[Array.getElem?_toList]at ho
       rw[ho];exact hd
      split at h
      ·split at h<;>cases h
       ·exact .pos hj hl'
       ·exact .E4 hj hl'
      ·split at h<;>cases h
       ·exact .neg hj hl'
       ·exact .PC hj hl'
     ·cases h
    ·cases h
   ·cases h
  ·cases h
theorem Q6{w0 w:World}{M0 M:Mem}{F:List (Nat×Kn)}{H:List (Nat×HX)}{Hr:List HO}(hF:BJ M F)(hS:St w0 M0 w M (HD H++Hr)): ∀ {vs:List XV} {E:List Ck},SB F H vs=some E->AG E-> ∀u∈vs.map XV.d0,u.oneCell'=true
 |[],_,_,_=>λ u hu=>by cases hu
 |x::l,E,h,hE=>by
  unfold SB at h
  split at h
  ·rename_i E' h1
   split at h
   ·split at h
    ·rename_i hx
     cases h
     intro u hu
     rcases List.mem_cons.1 hu with rfl|hu
     ·exact hx
     ·exact Q6 hF hS h1 hE u hu
    ·cases h
   ·rename_i k u
    split at h
    ·rename_i α inh kv sz l f g' hg' hK
     simp only[Option.some.injEq]at h;subst h
     intro u' hu
     rcases List.mem_cons.1 hu with rfl|hu
     ·have hh:_=kv:=hE _ (.head _)
      obtain⟨M2,Hs2,hS2,hK2⟩:=Q3 hF hS hK
      exact hh▸gA hK2
     ·exact Q6 hF hS h1 (λ c hc=>hE c (.tail _ hc)) _ hu
    ·cases h
   ·cases h
    intro u hu
    rcases List.mem_cons.1 hu with rfl|hu
    ·rfl
    ·exact Q6 hF hS h1 hE u hu
   ·cases h
    intro u hu
    rcases List.mem_cons.1 hu with rfl|hu
    ·rfl
    ·exact Q6 hF hS h1 hE u hu
   ·cases h
  ·cases h
theorem gT{v:XV}{vs:List XV}(h:cellsOf v=some vs):v.d.cells.toList=vs.map XV.d0\/ ∃u,vs=[u]/\v=u/\(∀cs,u≠ .ag cs)/\(∀cs,u≠ .tu cs):=by
 unfold cellsOf at h
 split at h
 ·cases h;left;simp[XV.d,XV.d1,Value.cells]
 ·cases h
 ·rename_i h1 h2
  cases h;right
  exact⟨_,rfl,rfl,h1,h2⟩
theorem uA{H':List (Nat×HX)}{E:List Ck}{t:TypeId}{x y:Operand}{all:Array Oper}{Q:Exit->Act->World->Prop}{rest:List Oper}{ty:TypeId}{ps:String}{af:Array Edge}(h:Z4 c.T s.F s.H s.L t x y=some (H',E))(hE:AG E){w:World}{M:Mem}(hX:DX c s.F s.H w M)
  (hn: ∀a w,JR c ⟨s.F,H',s.L⟩ a w->wpList c.P all Q rest a w) (a:Act) (w':World) (hsl:AK a c.N s.L.d) (hw:w'=w:=by rfl):wpList c.P all Q (⟨none,.store t x y,ty,ps,af,none⟩::rest) a w':=by
 subst hw
 unfold Z4 at h
 split at h
 ·rename_i va v E0 h1
  split at h
  ·rename_i k b o
   split at h
   ·rename_i b' cs t' h2
    split at h
    ·rename_i _ n _ h3
     split at h
     ·rename_i vs h4
      split at h
      ·rename_i hl
       have hl':vs.length=n:=Nat.eq_of_beq_eq_true hl
       split at h
       ·rename_i E1 h5
        split at h
        ·rename_i cs' h6
         simp only[Option.some.injEq,Prod.mk.injEq]at h;obtain⟨rfl,rfl⟩:=h
         have hb:b=b':=hE _ (.head _)
         subst hb
         have hE2:AG (E1++E0):=λ c hc=>hE c (.tail _ hc)
         obtain⟨hx,hy⟩:=LK h1 hE2.app.2
         have h1c:=Q6 hX.f hX.st h5 hE2.app.1
         have hcells:v.d.cells.toList=vs.map XV.d0:=by
          rcases gT h4 with h7|⟨u,rfl,rfl,h8,h9⟩
          ·exact h7
          ·have e:v.d=v.d0:=by cases v<;>first|rfl|(exact absurd rfl (h8 _))|(exact absurd rfl (h9 _))
           rw[e,V4 (h1c _ (by simp))];rfl
         obtain⟨i,hi,hst2⟩:=MS (Hr:=c.Hr) h2
         obtain⟨e6,hf6⟩:=put_eq _ _ _ _ h6
         refine RL.XI (P:=c.P) (N:=c.N) (ops:=all) (Q:=Q) (rest:=rest) (L:=s.L.d) (cs':=cs'.map XV.d0) (Hs':=HD (ES s.H k (.box b cs' t'))++c.Hr) hX.st hi hx hy (c.hT _ _ h3).size (by rw[hcells,List.length_map];exact hl') (Nat.ble_eq_true_of_le (by rw[List.length_map];show o+n<=cs.length;omega)) (by rw[hcells];exact List.all_eq_true.2 h1c) ?_ ?_ ?_ a hsl
         ·unfold G0;rw[hcells,e6];simp[List.map_take,List.map_drop]
         ·exact(hst2 (.box b cs' t')).symm
         ·intro w2 hS2 a2 hs2
          exact hn a2 w2 ⟨hs2,M,hS2,hX.f,hX.le⟩
        ·cases h
       ·cases h
      ·cases h
     ·cases h
    ·cases h
   ·cases h
  ·cases h
 ·cases h
theorem FU: ∀(n:Nat) (k:List Fr) (m:Md) (F:List (Nat×Kn)) (H:List (Nat×HX)) (L:XE) (O:Prop) (E:List Ck),let t:=exec c.T c.N n k m F H L O E;t.O->AG t.E->XG c B t.k t.m t.s->O/\AG E/\XG c B k m ⟨F,H,L⟩
 |0,k,m,F,H,L,O,E=>λ h1 h2 h3=>⟨h1,h2,h3⟩
 |n+1,k,m,F,H,L,O,E=>by
  intro t h1 h2 h3
  have ht:t=exec c.T c.N (n+1) k m F H L O E:=rfl
  unfold exec at ht
  split at ht
  ·rename_i x
   split at ht
   ·rw[ht]at h1 h2 h3
    obtain⟨r1,r2,r3⟩:=FU n _ _ _ _ _ _ _ h1 h2 h3
    exact⟨r1,r2,λ a w hs=>c.W.skip (r3 a w hs)⟩
   ·rw[ht]at h1 h2 h3
    obtain⟨r1,r2,r3⟩:=FU n _ _ _ _ _ _ _ h1 h2 h3
    exact⟨r1,r2,λ a w hs=>c.W.seq (r3 a w hs)⟩
   ·split at ht
    ·rw[ht]at h1 h2 h3
     obtain⟨r1,r2,r3⟩:=FU n _ _ _ _ _ _ _ h1 h2 h3
     exact⟨r1,r2,λ a w hs=>c.W.region (r3 a w hs)⟩
    ·rw[ht]at h1 h2 h3;exact⟨h1,h2,h3⟩
   ·rw[ht]at h1 h2 h3
    obtain⟨r1,r2,r3⟩:=FU n _ _ _ _ _ _ _ h1 h2 h3
    exact⟨r1,r2,λ a w hs=>c.W.block (r3 a w hs)⟩
   ·rw[ht]at h1 h2 h3
    obtain⟨r1,r2,r3⟩:=FU n _ _ _ _ _ _ _ h1 h2 h3
    exact⟨r1,r2,λ a w hs=>c.W.scope (r3 a w hs)⟩
   ·rw[ht]at h1 h2 h3
    obtain⟨r1,r2,r3⟩:=FU n _ _ _ _ _ _ _ h1 h2 h3
    exact⟨r1,r2,λ a w hs=>c.W.exit (r3 a w hs)⟩
   ·rw[ht]at h1 h2 h3
    exact⟨h1,h2,λ a w hs=>c.W.ret (SD a w (h3 a w hs) k)⟩
   ·split at ht
    ·rename_i v E' ho
     split at ht
     ·rename_i p hp
      have:=NV hp;subst this
      rw[ht]at h1 h2 h3
      refine⟨h1,(AG.app h2).2,λ a w hs=>c.W.cond (AT ho (AG.app h2).1 a c.N hs.1 U) (h3 a w hs)⟩
     ·rw[ht]at h1 h2 h3;exact⟨h1,h2,h3⟩
    ·rw[ht]at h1 h2 h3;exact⟨h1,h2,h3⟩
   ·rw[ht]at h1 h2 h3;exact⟨h1,h2,h3⟩
  ·split at ht
   ·rw[ht]at h1 h2 h3
    obtain⟨r1,r2,r3⟩:=FU n _ _ _ _ _ _ _ h1 h2 h3
    exact⟨r1,r2,λ a w hs=>r3 a w hs⟩
   ·rw[ht]at h1 h2 h3
    obtain⟨r1,r2,r3⟩:=FU n _ _ _ _ _ _ _ h1 h2 h3
    exact⟨r1,r2,λ a w hs=>r3 a w hs⟩
   ·rw[ht]at h1 h2 h3
    obtain⟨r1,r2,r3⟩:=FU n _ _ _ _ _ _ _ h1 h2 h3
    exact⟨r1,r2,λ a w hs=>r3 a w hs⟩
   ·rw[ht]at h1 h2 h3;exact⟨h1,h2,h3⟩
  ·rename_i id
   split at ht
   ·rename_i id' k'
    split at ht
    ·rename_i hid
     have:=Nat.eq_of_beq_eq_true hid;subst this
     rw[ht]at h1 h2 h3
     obtain⟨r1,r2,r3⟩:=FU n _ _ _ _ _ _ _ h1 h2 h3
     refine⟨r1,r2,λ a w hs=>?_⟩
     show(if id=id then _ else _)
     rw[if_pos U];exact r3 a w hs
    ·rename_i hid
     have:id≠id':=λ e=>by subst e;rw[Nat.beq_refl]at hid;cases hid
     rw[ht]at h1 h2 h3
     obtain⟨r1,r2,r3⟩:=FU n _ _ _ _ _ _ _ h1 h2 h3
     refine⟨r1,r2,λ a w hs=>?_⟩
     show(if id=id' then _ else _)
     rw[if_neg this];exact r3 a w hs
   ·rw[ht]at h1 h2 h3
    obtain⟨r1,r2,r3⟩:=FU n _ _ _ _ _ _ _ h1 h2 h3
    exact⟨r1,r2,λ a w hs=>r3 a w hs⟩
   ·rw[ht]at h1 h2 h3
    obtain⟨r1,r2,r3⟩:=FU n _ _ _ _ _ _ _ h1 h2 h3
    exact⟨r1,r2,λ a w hs=>r3 a w hs⟩
   ·rw[ht]at h1 h2 h3
    obtain⟨r1,r2,r3⟩:=FU n _ _ _ _ _ _ _ h1 h2 h3
    exact⟨r1,r2,λ a w hs=>r3 a w hs⟩
   ·rw[ht]at h1 h2 h3;exact⟨h1,h2,h3⟩
  ·rename_i all l
   split at ht
   ·rw[ht]at h1 h2 h3
    obtain⟨r1,r2,r3⟩:=FU n _ _ _ _ _ _ _ h1 h2 h3
    exact⟨r1,r2,λ a w hs=>c.W.nil (r3 a w hs)⟩
   ·rename_i dst op ty ps af gd rest
    split at ht
    ·rename_i d
     split at ht
     ·rename_i W hW
      split at ht
      ·rename_i v p E' hv
       split at ht
       ·rename_i hd
        obtain⟨O',hi,hO'⟩:=Z6 (W:=W) (K:=λ O'=>exec c.T c.N n k (.ops all rest) F H ((d,W,v)::L) O' (E'++E)) (ps:=p) (O:=O)
        rw[ht,hi]at h1 h2 h3
        obtain⟨r1,r2,r3⟩:=FU n _ _ _ _ _ _ _ h1 h2 h3
        obtain⟨hp,hO⟩:=hO' r1
        refine⟨hO,(AG.app r2).2,λ a w hs=>?_⟩
        obtain⟨hsl,M,hX⟩:=hs
        have hpv:PV c.P (· =w) L.d W.d ⟨some d,op,ty,ps,af,gd⟩ v.d:=S4 c.hT hX.f hX.st AX hv (AG.app r2).1 hp
        exact c.W.one (RL.v (MT hW) hpv hd (λ a' hs'=>c.W.back (r3 a' w ⟨hs',M,hX⟩)) a hsl)
       ·rw[ht]at h1 h2 h3;exact⟨h1,h2,h3⟩
      ·rw[ht]at h1 h2 h3;exact⟨h1,h2,h3⟩
     ·rw[ht]at h1 h2 h3;exact⟨h1,h2,h3⟩
    ·split at ht
     ·split at ht
      ·rename_i tt x y
       split at ht
       ·rename_i H' E' hst
        rw[ht]at h1 h2 h3
        obtain⟨r1,r2,r3⟩:=FU n _ _ _ _ _ _ _ h1 h2 h3
        refine⟨r1,(AG.app r2).2,λ a w hs=>?_⟩
        obtain⟨hsl,M,hX⟩:=hs
        exact c.W.one (uA hst (AG.app r2).1 hX (λ a' w' hs'=>c.W.back (r3 a' w' hs')) a w hsl)
       ·rw[ht]at h1 h2 h3;exact⟨h1,h2,h3⟩
      ·rw[ht]at h1 h2 h3;exact⟨h1,h2,h3⟩
     ·rw[ht]at h1 h2 h3;exact⟨h1,h2,h3⟩
  ·rw[ht]at h1 h2 h3;exact⟨h1,h2,h3⟩
theorem CI{m:Md}{k':List Fr}{m':Md}{s':XS}{O':Prop}{E':List Ck}(h:run c.T c.N k m s=⟨k',m',s',O',E'⟩)(hE:AG E')(hO:O')(hn:XG c B k' m' s'):XG c B k m s:=by
 unfold run at h
 split at h
 rename_i F H L
 have key: ∀F' H' L',F'=F->H'=H->L'=L->exec c.T c.N 10000 k m F' H' L' ((0:Int)=0) []=⟨k',m',s',O',E'⟩->XG c B k m ⟨F,H,L⟩:=by
  rintro F' H' L' rfl rfl rfl h
  have:=FU (c:=c) (B:=B) 10000 k m F' H' L' ((0:Int)=0) []
  rw[h]at this
  exact(this hO hE hn).2.2
 split at h
 ·rename_i F' hF
  split at h
  ·rename_i H' hH
   split at h
   ·rename_i L' hL
    exact key F' H' L' (Z5 hF) (Z5 hH) (gS hL) h
   ·exact key F H L U U U h
  ·exact key F H L U U U h
 ·exact key F H L U U U h
end
end Go.Eng
namespace Go.Eng
open Go.RowKit
abbrev I(n:Int):XV:=.v (.int .i64 n)
abbrev Z(k:Nat)(v:XV):Nat×Gd×XV:=(k,.t,v)
def MU:Nat->List XV->XE
 |_,[]=>[]
 |k,v::vs=>(k,.t,v)::MU (k+1) vs
theorem Q7: ∀(vs:List XV) (k:Nat),(MU k vs).d=L6 k (vs.map XV.d)
 |[],_=>rfl
 |v::vs,k=>by show(k,true,v.d)::XE.d (MU (k+1) vs)=_;rw[Q7 vs];rfl
def HR:List Nat->XE->XE
 |[],_=>[]
 |k::ks,L=>match BL L k with
  |some x=>(k,x)::HR ks L
  |none=>HR ks L
theorem VA: ∀(ks:List Nat) (L:XE) (t:Nat) (g:Gd) (v:XV),BL (HR ks L) t=some (g,v)->BL L t=some (g,v)
 |[],_,_,_,_,h=>by simp[HR,BL]at h
 |k::ks,L,t,g,v,h=>by
  unfold HR at h
  split at h
  ·rename_i x hx
   obtain⟨g',v'⟩:=x
   unfold BL at h
   split at h
   ·rename_i e
    cases h;have:=Nat.eq_of_beq_eq_true e;subst this;exact hx
   ·exact VA ks L t g v h
  ·exact VA ks L t g v h
theorem gU{a:Act}{N:Nat}{L L':XE}(hs:AK a N L.d)(h: ∀t g v,BL L' t=some (g,v)->BL L t=some (g,v)):AK a N L'.d:=
 ⟨hs.size,hs.CZ,λ t g v ht=>by
  obtain⟨g',v',h1,rfl,rfl⟩:=OS ht
  exact hs.val t _ _ (HN (h t g' v' h1))⟩
def MV:List (Nat×Kn)->List (Nat×Kn)->List (Nat×Kn)
 |[],_=>[]
 |(k,x)::F',F=>match KK F k with
  |some y=>(k,y)::MV F' F
  |none=>MV F' F
theorem Z7{M:Mem}{F:List (Nat×Kn)}(hF:BJ M F): ∀F',BJ M (MV F' F)
 |[]=>λ x hx=>by cases hx
 |(k,x)::F'=>by
  unfold MV
  split
  ·rename_i y hy
   intro z hz
   rcases List.mem_cons.1 hz with rfl|hz
   ·exact hF.get hy
   ·exact Z7 hF F' z hz
  ·exact Z7 hF F'
def LO:List (Nat×HX)->Nat->Option (HX×List (Nat×HX))
 |[],_=>none
 |(t,d)::H,k=>match Nat.beq t k with
  |true=>some (d,H)
  |false=>match LO H k with
   |some (x,H')=>some (x,(t,d)::H')
   |none=>none
theorem VB: ∀ {H:List (Nat×HX)} {k:Nat} {x:HX} {H':List (Nat×HX)},LO H k=some (x,H')->(x.d::HD H').Perm (HD H)
 |[],_,_,_,h=>by cases h
 |(t,d)::H,k,x,H',h=>by
  unfold LO at h
  split at h
  ·simp only[Option.some.injEq,Prod.mk.injEq]at h;obtain⟨rfl,rfl⟩:=h;exact .refl _
  ·split at h
   ·rename_i x2 H2 h2
    simp only[Option.some.injEq,Prod.mk.injEq]at h;obtain⟨rfl,rfl⟩:=h
    exact(List.Perm.swap _ _ _).trans ((VB h2).cons d.d)
   ·cases h
def MW:List (Nat×HX)->List (Nat×HX)->List (Nat×HX)
 |[],_=>[]
 |(k,_)::H',H=>match LO H k with
  |some (y,H2)=>(k,y)::MW H' H2
  |none=>MW H' H
theorem Z8: ∀(H' H:List (Nat×HX)),∃R,(HD (MW H' H)++R).Perm (HD H)
 |[],H=>⟨HD H,.refl _⟩
 |(k,d)::H',H=>by
  unfold MW
  split
  ·rename_i y H2 h2
   obtain⟨R,hR⟩:=Z8 H' H2
   exact⟨R,(hR.cons y.d).trans (VB h2)⟩
  ·exact Z8 H' H
def XS.sub (s' s:XS):Prop:=(∀t g v,BL s'.L t=some (g,v)->BL s.L t=some (g,v))/\(∀M,BJ M s.F->BJ M s'.F)/\ ∃R,(HD s'.H++R).Perm (HD s.H)
def keys:XE->List Nat
 |[]=>[]
 |(k,_)::L=>k::keys L
theorem XS.SE {s s':XS}(h:(⟨MV s'.F s.F,MW s'.H s.H,HR (keys s'.L) s.L⟩:XS)=s'):s'.sub s:=by
 refine⟨λ t g v hv=>?_,λ M hF=>?_,?_⟩
 ·rw[<-h]at hv;exact VA _ _ _ _ _ hv
 ·have:=Z7 hF s'.F;rw[<-h];exact this
 ·have:=Z8 s'.H s.H;rw[<-h];exact this
theorem JR.sub {c:Cx}{s s':XS}{a:Act}{w:World}(h:JR c s a w)(hs:s'.sub s):JR c s' a w:=by
 obtain⟨h1,M,h2,h3,h4⟩:=h
 obtain⟨k1,k2,R,k3⟩:=hs
 refine⟨gU h1 k1,M,?_,k2 M h3,h4⟩
 have hp:((HD s'.H++c.Hr)++R).Perm (HD s.H++c.Hr):=by
  refine List.Perm.trans ?_ (k3.append_right c.Hr)
  rw[List.append_assoc,List.append_assoc]
  exact(List.perm_append_comm).append_left _
 exact(h2.perm hp).drop _ (List.sublist_append_left _ _)
section
variable {c:Cx} {B:Exit->Act->World->Prop} {k k':List Fr} {m:Md} {s s':XS} {O:Prop} {E:List Ck}
theorem AE{b:Bool}{x y:Code}(h:run c.T c.N k m s=⟨k',.br b x y,s',O,E⟩)(hE:AG E)(hO:O)(ht:b=true->XG c B k' (.code x) s')(hf:b=false->XG c B k' (.code y) s'):XG c B k m s:=by
 refine CI h hE hO λ a w hs=>?_
 cases b
 ·exact hf U a w hs
 ·exact ht U a w hs
def LJ{σ:Type}(Sf:σ->XS)(I:σ->Prop)(μ:σ->Nat)(g:σ):XS->Prop:=λ t=> ∃g',t=Sf g'/\I g'/\μ g'<μ g
theorem DI{σ:Type}{x:Code}(Sf:σ->XS)(I:σ->Prop)(μ:σ->Nat)(g0:σ)(h:run c.T c.N k m s=⟨k',.code (.loop x),s',O,E⟩)(hE:AG E)(hO:O)
  (h0:(⟨MV (Sf g0).F s'.F,MW (Sf g0).H s'.H,HR (keys (Sf g0).L) s'.L⟩:XS)=Sf g0) (hI:I g0)
  (hr: ∀g,I g->XG c B (.loop (LJ Sf I μ g)::k') (.code x) (Sf g)):XG c B k m s:=by
 refine CI h hE hO λ a w hs=>?_
 refine c.W.loop (λ g a w=>I g/\JR c (Sf g) a w) μ g0 ⟨hI,hs.sub (XS.SE h0)⟩ λ g a w ⟨hg,hs⟩=>c.W.mono (hr g hg a w hs) λ e a w q=>?_
 cases e with
 |normal=>obtain⟨t,⟨g',rfl,h1,h2⟩,h3⟩:=q;exact⟨g',⟨h1,h3⟩,h2⟩
 |_=>exact q
theorem CS{σ:Type}{Sf:σ->XS}{I:σ->Prop}{μ:σ->Nat}{g:σ}(g':σ)(h:run c.T c.N k m s=⟨.loop (LJ Sf I μ g)::k',.next,s',O,E⟩)(hE:AG E)(hO:O)
  (h0:(⟨MV (Sf g').F s'.F,MW (Sf g').H s'.H,HR (keys (Sf g').L) s'.L⟩:XS)=Sf g') (hI:I g') (hm:μ g'<μ g):XG c B k m s:=
 CI h hE hO λ a w hs=>⟨_,⟨g',rfl,hI,hm⟩,hs.sub (XS.SE h0)⟩
def OU:Value->XV
 | .agg ⟨cs⟩=>.ag (MQ cs)
 |x=>.v x
def VC:List Value->Option (List XV)
 |[]=>some []
 |x::l=>match VC l with
  |some r=>some (OU x::r)
  |none=>none
def vx:Value->Option XV
 | .tuple ⟨l⟩=>match VC l with
  |some r=>some (.tu r)
  |none=>none
 |x=>some (OU x)
theorem gV: ∀l:List Value,(MQ l).map XV.d0=l
 |[]=>rfl
 |x::l=>by simp[MQ,gV l,XV.d0]
theorem gW(x:Value):(OU x).d1=x:=by
 unfold OU
 split
 ·rename_i cs;simp[XV.d1,gV]
 ·rfl
theorem uB(x:Value):(OU x).d=(OU x).d1:=by
 unfold OU
 split<;>rfl
theorem gX: ∀ {l:List Value} {r:List XV},VC l=some r->r.map XV.d1=l
 |[],r,h=>by cases h;rfl
 |x::l,r,h=>by
  unfold VC at h
  split at h
  ·rename_i r' hr;cases h;simp[gW,gX hr]
  ·cases h
theorem Z9{x:Value}{v:XV}(h:vx x=some v):v.d=x:=by
 unfold vx at h
 split at h
 ·split at h
  ·rename_i r hr;cases h;simp[XV.d,gX hr]
  ·cases h
 ·cases h;rw[uB,gW]
def JT(L:XE)(W:Gd):List Operand->Option (List XV×List Ck)
 |[]=>some ([],[])
 |x::xs=>match C9 L W x with
  |some (v,E)=>match JT L W xs with
   |some (vs,E')=>some (v::vs,E++E')
   |none=>none
  |none=>none
theorem MX{L:XE}{W:Gd}: ∀ {xs:List Operand} {vs:List XV} {E:List Ck},JT L W xs=some (vs,E)->AG E->EH L.d W.d xs (vs.map XV.d)
 |[],vs,E,h,_=>by simp only[JT,Option.some.injEq,Prod.mk.injEq]at h;obtain⟨rfl,rfl⟩:=h;exact .nil
 |x::xs,vs,E,h,hE=>by
  unfold JT at h
  split at h
  ·rename_i v E1 h1
   split at h
   ·rename_i vs' E2 h2
    simp only[Option.some.injEq,Prod.mk.injEq]at h;obtain⟨rfl,rfl⟩:=h
    exact .cons (AT h1 hE.app.1) (MX h2 hE.app.2)
   ·cases h
  ·cases h
abbrev CT(P:Program)(f:FuncId):Prop:= ∀args w,(callFunc f args).run P w= .ok (.enter f args) w
theorem B7{d:Nat}{f:FuncId}{xs:List Operand}{tys:Array TypeId}{ty:TypeId}{ps:String}{af:Array Edge}{gd:Option (Nat×Bool)}{all:Array Oper}{rest:List Oper}{W:Gd}{vs:List XV}{E2:List Ck}{u:Value}{v:XV}
  (h:run c.T c.N k m s=⟨k',.ops all (⟨some d,.call ⟨.value (.func f),⟨xs⟩,tys⟩,ty,ps,af,gd⟩::rest),s',O,E⟩) (hE:AG E) (hO:O) (ct:CT c.P f) (hg:(JS all s'.L gd,Nat.blt d c.N)=(some W,true)) (hx:JT s'.L W xs=some (vs,E2)) (hE2:AG E2)
  (hc:W.d=true-> ∀w M,DX c s'.F s'.H w M->Calls c.P f (vs.map XV.d).toArray w (λ e w'=>e= .returned u/\Ext w w')) (hv:vx u=some v) (hn:XG c B k' (.ops all rest) ⟨s'.F,s'.H,(d,W,v)::s'.L⟩):XG c B k m s:=by
 refine CI h hE hO λ a w hs=>?_
 obtain⟨h1,M,h2⟩:=hs
 simp only[Prod.mk.injEq]at hg
 have e:(⟨xs⟩:Array Operand)=xs.toArray:=rfl
 rw[e]
 refine c.W.one (RL.D5 h2.st (MT hg.1) ct (MX hx hE2) (λ hW=>hc hW w M h2) hg.2 (λ w' hS'=>?_) a h1)
 intro a' hs'
 rw[<-Z9 hv]at hs'
 exact c.W.back (hn a' w' ⟨hs',M,hS',h2.f,h2.le⟩)
end
end Go.Eng
namespace Go.Eng
open Go.RowKit
theorem B8{P:Program}{N:Nat}{w0 w:World}{M0 M:Mem}{Hr:List HO}{T:TT}(hT:EN P T){f:FuncId}{fn:Func}{x:Code}{R:Ending->World->Prop}(hf:P.funcs[f]? =some fn)(hb:fn.body=some x)(hn:fn.ntmps=N)
  (F:List (Nat×Kn)) (H:List (Nat×HX)) (vs:List XV) (hl:Nat.ble vs.length N=true) (hS:St w0 M0 w M (HD H++Hr)) (hF:BJ M F)
  (h: ∀B,Ends P fn R B->XG ⟨P,N,w0,M0,M,Hr,T,hT,.wide P⟩ B [] (.code x) ⟨F,H,MU 0 vs⟩) {av:List Value} (ha:vs.map XV.d=av):Calls P f av.toArray w R:=by
 subst ha
 refine CW.BN hf hb hn (by rw[List.length_map];exact Nat.le_of_ble_eq_true hl) λ Q hQ a hs=>?_
 have:=h Q hQ a w ⟨by rw[<-Q7]at hs;exact hs,M,hS,hF,Mem.le.refl _⟩
 exact this
end Go.Eng
namespace Go.Eng
open Go.RowKit
theorem uC{α:Type}(f:α->List Value)(sz:Nat)(hf: ∀x,(f x).length=sz)(l:List α)(a b j:Nat)(hab:a<=b)(hb:b<=l.length)(hj:j<(b-a)*sz):
  (l.flatMap f)[a*sz+j]? =(((l.drop a).take (b-a)).flatMap f)[j]?:=by
 have e:l=l.take a++((l.drop a).take (b-a)++(l.drop a).drop (b-a)):=by rw[List.take_append_drop,List.take_append_drop]
 have e2:l.flatMap f=(l.take a).flatMap f++(((l.drop a).take (b-a)).flatMap f++((l.drop a).drop (b-a)).flatMap f):=by
  conv=>lhs;rw[e]
  rw[List.flatMap_append,List.flatMap_append]
 have h1:((l.take a).flatMap f).length=a*sz:=by rw[E5 f sz hf,List.length_take,Nat.min_eq_left (by omega)]
 have h2:(((l.drop a).take (b-a)).flatMap f).length=(b-a)*sz:=by rw[E5 f sz hf,List.length_take,List.length_drop,Nat.min_eq_left (by omega)]
 rw[e2,List.getElem?_append_right (by omega),h1,show a*sz+j-a*sz=j from by omega,List.getElem?_append_left (by omega)]
theorem ZA{α:Type}{f:α->List Value}{M:Mem}{sz:Nat}{v:Value}{l:List α}(h:Sl M sz l.length v (l.flatMap f))(hf: ∀x,(f x).length=sz){a b:Int}(h0:0<=a)(h1:a<=b)(h2:b<=len l):
  ∃p cap,v= .slice p l.length cap/\l.length<=cap/\Sl M sz (Eng.sub l a b).length (sliced p a.toNat b.toNat cap sz) ((Eng.sub l a b).flatMap f):=by
 obtain⟨p,cap,hv,hc,hm,hp⟩:=h.val
 refine⟨p,cap,hv,hc,?_⟩
 unfold len at h2
 have hl:(Eng.sub l a b).length=b.toNat-a.toNat:=by unfold Eng.sub;rw[List.length_take,List.length_drop];omega
 refine⟨by rw[E5 f sz hf],_,_,by unfold sliced;rw[hl],by rw[hl];omega,by omega,λ hn=>?_⟩
 rw[hl]at hn
 obtain⟨b0,o,hpe,hcell⟩:=hp (by omega)
 refine⟨b0,o+a.toNat*sz,by rw[if_neg (by omega),hpe,Option.map_some,GU],λ j hj=>?_⟩
 rw[E5 f sz hf,hl]at hj
 have hlen:a.toNat*sz+j<(l.flatMap f).length:=by
  rw[E5 f sz hf]
  have:=Nat.mul_le_mul_right sz (show a.toNat+(b.toNat-a.toNat)<=l.length by omega)
  rw[Nat.add_mul]at this;omega
 rw[Nat.add_assoc,hcell _ hlen]
 exact uC f sz hf l a.toNat b.toNat j (by omega) (by omega) hj
section sl
variable {P:Program} {α:Type} {f:α->List Value} {M:Mem} {sz:Nat} {v:Value} {l:List α} {t e:TypeId}
theorem Q8(ht:P.underlying t=some (.slice e)):P.elem t=e:=by unfold Program.elem;rw[ht]
theorem uD(h:Sl M sz l.length v (l.flatMap f))(hf: ∀x,(f x).length=sz)(ht:P.underlying t=some (.slice e))(hs: ∀w,(sizeOf e).run P w= .ok sz w)(a b:Int)(hr:0<=a/\a<=b/\b<=len l):
  ∃v',Sl M sz (Eng.sub l a b).length v' ((Eng.sub l a b).flatMap f)/\ ∀(k k':IntKind) w,(Instr.sliceAt t v (some (.int k a)) (some (.int k' b)) none).run P w= .ok v' w:=by
 obtain⟨h0,h1,h2⟩:=hr
 obtain⟨p,cap,hv,hc,hS⟩:=ZA h hf h0 h1 h2
 have ht':P.underlying t=some (.slice (P.elem t)):=by rw[Q8 ht];exact ht
 refine⟨_,hS,λ k k' w=>?_⟩
 rw[hv,run_sliceAt_slice w t _ _ _ _ ht',run_slice_lh w t p _ cap ht' k k' a b h0 h1 (by unfold len at h2;omega),Q8 ht,hs]
 rfl
theorem uE(h:Sl M sz l.length v (l.flatMap f))(hf: ∀x,(f x).length=sz)(ht:P.underlying t=some (.slice e))(hs: ∀w,(sizeOf e).run P w= .ok sz w)(a b:Int)(hr:0<=a/\a<=b/\b<=len l)(ha:a=0:=by rfl):
  ∃v',Sl M sz (Eng.sub l a b).length v' ((Eng.sub l a b).flatMap f)/\ ∀(k':IntKind) w,(Instr.sliceAt t v none (some (.int k' b)) none).run P w= .ok v' w:=by
 subst ha
 obtain⟨h0,h1,h2⟩:=hr
 obtain⟨p,cap,hv,hc,hS⟩:=ZA h hf h0 h1 h2
 have ht':P.underlying t=some (.slice (P.elem t)):=by rw[Q8 ht];exact ht
 refine⟨_,hS,λ k' w=>?_⟩
 rw[hv,run_sliceAt_slice w t _ _ _ _ ht',run_slice_h w t p _ cap ht' k' b h1 (by unfold len at h2;omega),Q8 ht,hs]
 rfl
theorem uF(h:Sl M sz l.length v (l.flatMap f))(hf: ∀x,(f x).length=sz)(ht:P.underlying t=some (.slice e))(hs: ∀w,(sizeOf e).run P w= .ok sz w)(a b:Int)(hr:0<=a/\a<=b/\b<=len l)(hb:b=len l:=by rfl):
  ∃v',Sl M sz (Eng.sub l a b).length v' ((Eng.sub l a b).flatMap f)/\ ∀(k:IntKind) w,(Instr.sliceAt t v (some (.int k a)) none none).run P w= .ok v' w:=by
 subst hb
 obtain⟨h0,h1,h2⟩:=hr
 obtain⟨p,cap,hv,hc,hS⟩:=ZA h hf h0 h1 h2
 have ht':P.underlying t=some (.slice (P.elem t)):=by rw[Q8 ht];exact ht
 refine⟨_,hS,λ k w=>?_⟩
 rw[hv,run_sliceAt_slice w t _ _ _ _ ht',run_slice_l w t p _ cap ht' k a h0 h1,Q8 ht,hs]
 rfl
variable {C:World->Prop} {L:Env} {W:Bool} {d:Option Tmp} {ty:TypeId} {ps:String} {af:Array Edge} {gd:Option (Nat×Bool)} {x y z:Operand} {v':Value} {k k':IntKind} {a b:Int}
theorem PV.uG (hx:A8 L W x v)(hy:A8 L W y (.int k a))(hz:A8 L W z (.int k' b))(hr: ∀(k k':IntKind) w,(Instr.sliceAt t v (some (.int k a)) (some (.int k' b)) none).run P w= .ok v' w):PV P C L W ⟨d,.slice t x (some y) (some z) none,ty,ps,af,gd⟩ v':=by
 intro ac N hs hW w _
 simp only[execOp,hx ac N hs hW,Option.map_some,Option.map_none,hy ac N hs hW,hz ac N hs hW]
 rw[Sem.run_bind,hr];rfl
theorem PV.uH (hx:A8 L W x v)(hz:A8 L W z (.int k' b))(hr: ∀(k':IntKind) w,(Instr.sliceAt t v none (some (.int k' b)) none).run P w= .ok v' w):PV P C L W ⟨d,.slice t x none (some z) none,ty,ps,af,gd⟩ v':=by
 intro ac N hs hW w _
 simp only[execOp,hx ac N hs hW,Option.map_some,Option.map_none,hz ac N hs hW]
 rw[Sem.run_bind,hr];rfl
theorem PV.uI (hx:A8 L W x v)(hy:A8 L W y (.int k a))(hr: ∀(k:IntKind) w,(Instr.sliceAt t v (some (.int k a)) none none).run P w= .ok v' w):PV P C L W ⟨d,.slice t x (some y) none none,ty,ps,af,gd⟩ v':=by
 intro ac N hs hW w _
 simp only[execOp,hx ac N hs hW,Option.map_some,Option.map_none,hy ac N hs hW]
 rw[Sem.run_bind,hr];rfl
end sl
end Go.Eng
