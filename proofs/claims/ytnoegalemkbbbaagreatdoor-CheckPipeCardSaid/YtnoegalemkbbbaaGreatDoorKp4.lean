/- Lemmas for the card. -/
import Derived.Test.YtnoegalemkbbbaaGreatDoorKp3
set_option linter.unusedVariables false
set_option linter.unusedSimpArgs false
set_option maxRecDepth 100000
namespace Go.Eng
open Go.RowKit
abbrev I(n:Int):XV:=.v (.int .i64 n)
abbrev Z(k:Nat)(v:XV):Nat×Gd×XV:=(k,.t,v)
def N3:Nat->List XV->XE
 |_,[]=>[]
 |k,v::vs=>(k,.t,v)::N3 (k+1) vs
theorem RD: ∀(vs:List XV) (k:Nat),(N3 k vs).d=MZ k (vs.map XV.d)
 |[],_=>rfl
 |v::vs,k=>by show(k,true,v.d)::XE.d (N3 (k+1) vs)=_;rw[RD vs];rfl
def GH:List Nat->XE->XE
 |[],_=>[]
 |k::ks,L=>match BQ L k with
  |some x=>(k,x)::GH ks L
  |none=>GH ks L
theorem WW: ∀(b:List Nat) (L:XE) (t:Nat) (g:Gd) (v:XV),BQ (GH b L) t=some (g,v)->BQ L t=some (g,v)
 |[],_,_,_,_,h=>by simp[GH,BQ]at h
 |k::b,L,t,g,v,h=>by
  unfold GH at h
  split at h
  ·rename_i x hx
   obtain⟨i,v'⟩:=x
   unfold BQ at h
   split at h
   ·rename_i e
    cases h;have:=Nat.eq_of_beq_eq_true e;subst this;exact hx
   ·exact WW b L t g v h
  ·exact WW b L t g v h
theorem cH{a:Act}{N:Nat}{L L':XE}(hs:B1 a N L.d)(h: ∀t g v,BQ L' t=some (g,v)->BQ L t=some (g,v)):B1 a N L'.d:=
 ⟨hs.size,hs.DZ,λ t g v b=>by
  obtain⟨e,v',h1,rfl,rfl⟩:=PL b
  exact hs.val t _ _ (I9 (h t e v' h1))⟩
def JC:List (Nat×Kn)->List (Nat×Kn)->List (Nat×Kn)
 |[],_=>[]
 |(k,x)::F',F=>match K8 F k with
  |some y=>(k,y)::JC F' F
  |none=>JC F' F
theorem cI{M:Mem}{F:List (Nat×Kn)}(hF:BH M F): ∀b,BH M (JC b F)
 |[]=>λ x hx=>by cases hx
 |(k,x)::b=>by
  unfold JC
  split
  ·rename_i y h
   intro z e
   rcases List.mem_cons.1 e with rfl|e
   ·exact hF.get h
   ·exact cI hF b z e
  ·exact cI hF b
def LY:List (Nat×HX)->Nat->Option (HX×List (Nat×HX))
 |[],_=>none
 |(t,d)::H,k=>match Nat.beq t k with
  |true=>some (d,H)
  |false=>match LY H k with
   |some (x,H')=>some (x,(t,d)::H')
   |none=>none
theorem WX: ∀ {H:List (Nat×HX)} {k:Nat} {x:HX} {b:List (Nat×HX)},LY H k=some (x,b)->(x.d::HD b).Perm (HD H)
 |[],_,_,_,h=>by cases h
 |(t,d)::H,k,x,b,h=>by
  unfold LY at h
  split at h
  ·simp only[Option.some.injEq,Prod.mk.injEq]at h;obtain⟨rfl,rfl⟩:=h;exact .refl _
  ·split at h
   ·rename_i i j e
    simp only[Option.some.injEq,Prod.mk.injEq]at h;obtain⟨rfl,rfl⟩:=h
    exact(List.Perm.swap _ _ _).trans ((WX e).cons d.d)
   ·cases h
def JD:List (Nat×HX)->List (Nat×HX)->List (Nat×HX)
 |[],_=>[]
 |(k,_)::H',H=>match LY H k with
  |some (y,H2)=>(k,y)::JD H' H2
  |none=>JD H' H
theorem cJ: ∀(b H:List (Nat×HX)),∃R,(HD (JD b H)++R).Perm (HD H)
 |[],H=>⟨HD H,.refl _⟩
 |(k,d)::b,H=>by
  unfold JD
  split
  ·rename_i y e h
   obtain⟨R,i⟩:=cJ b e
   exact⟨R,(i.cons y.d).trans (WX h)⟩
  ·exact cJ b H
def XS.sub (s' s:XS):Prop:=(∀t g v,BQ s'.L t=some (g,v)->BQ s.L t=some (g,v))/\(∀M,BH M s.F->BH M s'.F)/\ ∃R,(HD s'.H++R).Perm (HD s.H)
def keys:XE->List Nat
 |[]=>[]
 |(k,_)::L=>k::keys L
theorem XS.N4 {s s':XS}(h:(⟨JC s'.F s.F,JD s'.H s.H,GH (keys s'.L) s.L⟩:XS)=s'):s'.sub s:=by
 refine⟨λ t g v b=>?_,λ M hF=>?_,?_⟩
 ·rw[<-h]at b;exact WW _ _ _ _ _ b
 ·have:=cI hF s'.F;rw[<-h];exact this
 ·have:=cJ s'.H s.H;rw[<-h];exact this
theorem HT.sub {c:Cx}{s s':XS}{a:Act}{w:World}(h:HT c s a w)(hs:s'.sub s):HT c s' a w:=by
 obtain⟨h1,M,b,e,i⟩:=h
 obtain⟨j,k,R,l⟩:=hs
 refine⟨cH h1 j,M,?_,k M e,i⟩
 have hp:((HD s'.H++c.Hr)++R).Perm (HD s.H++c.Hr):=by
  refine List.Perm.trans ?_ (l.append_right c.Hr)
  rw[List.append_assoc,List.append_assoc]
  exact(List.perm_append_comm).append_left _
 exact(b.perm hp).drop _ (List.sublist_append_left _ _)
section
variable {c:Cx} {B:Exit->Act->World->Prop} {k k':List Fr} {m:Md} {s s':XS} {O:Prop} {E:List Ck}
theorem A1{b:Bool}{x y:Code}(h:run c.T c.N k m s=⟨k',.br b x y,s',O,E⟩)(e:b=true->XG c B k' (.code x) s')(i:b=false->XG c B k' (.code y) s')(hE:AA E:=by exact Ad)(hO:O:=by exact Af):XG c B k m s:=by
 refine CH h hE hO λ a w hs=>?_
 cases b
 ·exact i U a w hs
 ·exact e U a w hs
def LJ{σ:Type}(Sf:σ->XS)(I:σ->Prop)(μ:σ->Nat)(g:σ):XS->Prop:=λ t=> ∃g',t=Sf g'/\I g'/\μ g'<μ g
theorem B5{σ:Type}{x:Code}(b:σ->XS)(I:σ->Prop)(μ:σ->Nat)(g0:σ)(h:run c.T c.N k m s=⟨k',.code (.loop x),s',O,E⟩)
  (h0:(⟨JC (b g0).F s'.F,JD (b g0).H s'.H,GH (keys (b g0).L) s'.L⟩:XS)=b g0) (i:I g0)
  (j: ∀g,I g->XG c B (.loop (LJ b I μ g)::k') (.code x) (b g)) (hE:AA E:=by exact Ad) (hO:O:=by exact Af):XG c B k m s:=by
 refine CH h hE hO λ a w hs=>c.W.loop (λ g a w=>I g/\HT c (b g) a w) μ g0 ⟨i,hs.sub (XS.N4 h0)⟩ λ g a w ⟨hg,hs⟩=>c.W.mono (j g hg a w hs) λ e a w q=>?_
 cases e with
 |normal=>obtain⟨t,⟨l,rfl,h1,n⟩,y⟩:=q;exact⟨l,⟨h1,y⟩,n⟩
 |_=>exact q
theorem AX{σ:Type}{e:σ->XS}{I:σ->Prop}{μ:σ->Nat}{g:σ}(b:σ)(h:run c.T c.N k m s=⟨.loop (LJ e I μ g)::k',.next,s',O,E⟩)
  (h0:(⟨JC (e b).F s'.F,JD (e b).H s'.H,GH (keys (e b).L) s'.L⟩:XS)=e b) (i:I b) (hm:μ b<μ g) (hE:AA E:=by exact Ad) (hO:O:=by exact Af):XG c B k m s:=
 CH h hE hO λ a w hs=>⟨_,⟨b,rfl,i,hm⟩,hs.sub (XS.N4 h0)⟩
def PM:Value->XV
 | .agg ⟨cs⟩=>.ag (EO cs)
 |x=>.v x
def WY:List Value->Option (List XV)
 |[]=>some []
 |x::l=>match WY l with
  |some r=>some (PM x::r)
  |none=>none
def vx:Value->Option XV
 | .tuple ⟨l⟩=>match WY l with
  |some r=>some (.tu r)
  |none=>none
 |x=>some (PM x)
theorem kQ: ∀l:List Value,(EO l).map XV.d0=l
 |[]=>rfl
 |x::l=>by simp[EO,kQ l,XV.d0]
theorem kR(x:Value):(PM x).d1=x:=by
 unfold PM
 split
 ·rename_i cs;simp[XV.d1,kQ]
 ·rfl
theorem AA2(x:Value):(PM x).d=(PM x).d1:=by
 unfold PM
 split<;>rfl
theorem kS: ∀ {l:List Value} {r:List XV},WY l=some r->r.map XV.d1=l
 |[],r,h=>by cases h;rfl
 |x::l,r,h=>by
  unfold WY at h
  split at h
  ·rename_i r' b;cases h;simp[kR,kS b]
  ·cases h
theorem cK{x:Value}{v:XV}(h:vx x=some v):v.d=x:=by
 unfold vx at h
 split at h
 ·split at h
  ·rename_i r b;cases h;simp[XV.d,kS b]
  ·cases h
 ·cases h;rw[AA2,kR]
def JQ(L:XE)(W:Gd):List Operand->Option (List XV×List Ck)
 |[]=>some ([],[])
 |x::xs=>match B8 L W x with
  |some (v,E)=>match JQ L W xs with
   |some (vs,E')=>some (v::vs,E++E')
   |none=>none
  |none=>none
theorem LZ{L:XE}{W:Gd}: ∀ {xs:List Operand} {vs:List XV} {E:List Ck},JQ L W xs=some (vs,E)->AA E->EH L.d W.d xs (vs.map XV.d)
 |[],vs,E,h,_=>by simp only[JQ,Option.some.injEq,Prod.mk.injEq]at h;obtain⟨rfl,rfl⟩:=h;exact .nil
 |x::xs,vs,E,h,hE=>by
  unfold JQ at h
  split at h
  ·rename_i v E1 h1
   split at h
   ·rename_i b E2 e
    simp only[Option.some.injEq,Prod.mk.injEq]at h;obtain⟨rfl,rfl⟩:=h
    exact .cons (A8 h1 (hE:=hE.app.1)) (LZ e hE.app.2)
   ·cases h
  ·cases h
abbrev CT(P:Program)(f:FuncId):Prop:= ∀args w,(callFunc f args).run P w= .ok (.enter f args) w
theorem AJ{d:Nat}{f:FuncId}{xs:List Operand}{tys:Array TypeId}{ty:TypeId}{ps:String}{af:Array Edge}{gd:Option (Nat×Bool)}{all:Array Oper}{rest:List Oper}{W:Gd}{vs:List XV}{E2:List Ck}{u:Value}{v:XV}
  (h:run c.T c.N k m s=⟨k',.ops all (⟨some d,.call ⟨.value (.func f),⟨xs⟩,tys⟩,ty,ps,af,gd⟩::rest),s',O,E⟩) (l:CT c.P f) (hg:(HA all s'.L gd,Nat.blt d c.N)=(some W,true)) (hx:JQ s'.L W xs=some (vs,E2))
  (n:W.d=true-> ∀w M,D1 c s'.F s'.H w M->Calls c.P f (vs.map XV.d).toArray w (λ e w'=>e= .returned u/\Ext w w')) (q:vx u=some v) (y:XG c B k' (.ops all rest) ⟨s'.F,s'.H,(d,W,v)::s'.L⟩) (hE:AA E:=by exact Ad) (hO:O:=by exact Af) (hE2:AA E2:=by exact Ad):XG c B k m s:=by
 refine CH h hE hO λ a w hs=>?_
 obtain⟨h1,M,i⟩:=hs
 simp only[Prod.mk.injEq]at hg
 have e:(⟨xs⟩:Array Operand)=xs.toArray:=rfl
 rw[e]
 refine c.W.one (RL.aR i.st (LX hg.1) l (LZ hx hE2) (λ z=>n z w M i) hg.2 (λ w' j=>?_) a h1)
 intro a' b
 rw[<-cK q]at b
 exact c.W.back (y a' w' ⟨b,M,j,i.f,i.le⟩)
end
class kT (P:Program)where
 T:TT
 ok:DR P T
inductive Tg where
 |s (k:Nat)
 |b (k:Nat)
 |g
def kU:List (Nat×Tg)->Nat->Option Tg
 |[],_=>none
 |(t,d)::T,k=>match Nat.beq t k with
  |true=>some d
  |false=>kU T k
def M4(tg:List (Nat×Tg))(L:Env):List Nat->XE->List Ck->Option (XE×List Ck)
 |[],X,E=>some (X,E)
 |k::ks,X,E=>match look L k with
  |none=>M4 tg L ks X E
  |some (g,v)=>match kU tg k with
   |some (.s n)=>M4 tg L ks ((k,.t,.sl n v)::X) (.b true g::E)
   |some (.b n)=>match v with
    | .pointer (some ⟨b,o,none⟩)=>M4 tg L ks ((k,.t,.bx n b o)::X) (.b true g::E)
    |_=>none
   |some .g=>M4 tg L ks ((k,.g g,.v v)::X) E
   |none=>M4 tg L ks ((k,.t,.v v)::X) (.b true g::E)
def JE(X:XE)(L:Env):Prop:= ∀k g v,BQ X k=some (g,v)->look L k=some (g.d,v.d)
theorem JE.cons {X:XE}{L:Env}(h:JE X L){k:Nat}{g:Gd}{v:XV}{i:Bool}{v':Value}(hl:look L k=some (i,v'))(hg:g.d=i)(j:v.d=v'):JE ((k,g,v)::X) L:=by
 intro t g2 v2 b
 unfold BQ at b
 split at b
 ·rename_i e;cases b;have:=Nat.eq_of_beq_eq_true e;subst this;rw[hl,hg,j]
 ·exact h t g2 v2 b
theorem JE.put {X:XE}{L:Env}(h:JE X L){k:Nat}{g:Gd}{v:XV}:JE ((k,g,v)::X) ((k,g.d,v.d)::L):=by
 intro t g2 v2 b
 unfold BQ at b
 split at b
 ·rename_i e;cases b;have:=Nat.eq_of_beq_eq_true e;subst this;rw[MY]
 ·rename_i e
  have:k≠t:=λ i=>by subst i;rw[Nat.beq_refl]at e;cases e
  rw[O0 this];exact h t g2 v2 b
theorem WZ{q:List (Nat×Tg)}{L:Env}: ∀ {l:List Nat} {X e:XE} {E i:List Ck},M4 q L l X E=some (e,i)->AA i->(AA E->JE X L)->JE e L/\AA E
 |[],X,e,E,i,h,hE,j=>by simp only[M4,Option.some.injEq,Prod.mk.injEq]at h;obtain⟨rfl,rfl⟩:=h;exact⟨j hE,hE⟩
 |k::l,X,e,E,i,h,hE,j=>by
  unfold M4 at h
  split at h
  ·exact WZ h hE j
  ·rename_i g v hl
   have go: ∀(x:XV),x.d=v->M4 q L l ((k,.t,x)::X) (.b true g::E)=some (e,i)->JE e L/\AA E:=by
    intro x hx s
    have:=WZ s hE λ hE2=>(j λ c n=>hE2 c (.tail _ n)).cons hl (by have w:g=true:=hE2 _ (.head _) U;rw[w];rfl) hx
    exact⟨this.1,λ c n=>this.2 c (.tail _ n)⟩
   split at h
   ·exact go _ U h
   ·split at h
    ·exact go _ U h
    ·cases h
   ·exact WZ h hE λ hE2=>(j hE2).cons hl U U
   ·exact go _ U h
theorem JE.kV {X:XE}{L:Env}(h:JE X L){a:Act}{N:Nat}(hs:B1 a N L):B1 a N X.d:=
 ⟨hs.size,hs.DZ,λ t g v b=>by
  obtain⟨e,v',h1,rfl,rfl⟩:=PL b
  exact hs.val t _ _ (h t e v' h1)⟩
def tm:Operand->List Nat->List Nat
 | .tmp k,r=>k::r
 |_,r=>r
def kW:Option Operand->List Nat->List Nat
 |some x,r=>tm x r
 |none,r=>r
def tmp:List (Nat×Operand)->List Nat->List Nat
 |[],r=>r
 |(_,x)::ps,r=>tm x (tmp ps r)
def AA3:Op->List Nat->List Nat
 | .move x,r=>tm x r
 | .assign x,r=>tm x r
 | .pick c x y,r=>tm c (tm x (tm y r))
 | .binOp _ _ x y _,r=>tm x (tm y r)
 | .unOp _ _ x,r=>tm x r
 | .convert _ _ x,r=>tm x r
 | .slice _ x lo hi _,r=>tm x (kW lo (kW hi r))
 | .fieldAddr _ x _,r=>tm x r
 | .field _ x _,r=>tm x r
 | .indexAddr _ x y,r=>tm x (tm y r)
 | .index _ x y,r=>tm x (tm y r)
 | .load _ x,r=>tm x r
 | .extract x _,r=>tm x r
 | .build _ ⟨ps⟩,r=>tmp ps r
 | .call ⟨_,⟨[x]⟩,_⟩,r=>tm x r
 |_,r=>r
def AA4(all:Array Oper)(gd:Option (Nat×Bool))(r:List Nat):List Nat:=
 match gd with
 |none=>r
 |some (j,_)=>match nth all.toList j with
  |some o=>match o.dst with
   |some d=>d::r
   |none=>r
  |none=>r
def kX(all:Array Oper):Nat->List Oper->List Nat
 |n+1,o::l=>AA3 o.op (AA4 all o.guard (kX all n l))
 |_,_=>[]
def X1:List XV->Option (List Value)
 |[]=>some []
 |x::l=>match X1 l with
  |some r=>match x with
   | .v u=>some (u::r)
   | .sl _ u=>some (u::r)
   |_=>none
  |none=>none
theorem kY: ∀ {l:List XV} {r:List Value},X1 l=some r->l.map XV.d0=r
 |[],r,h=>by cases h;rfl
 |x::l,r,h=>by
  unfold X1 at h
  split at h
  ·rename_i r' b
   split at h<;>first|(cases h;simp[kY b,XV.d0])|cases h
  ·cases h
def dV:XV->Option Value
 | .v u=>some u
 | .sl _ u=>some u
 | .el _ x sz i j=>match j with
  |0=>some (.pointer (some ⟨sb x,so x+i.toNat*sz,none⟩))
  |j+1=>some (.pointer (some ⟨sb x,so x+i.toNat*sz+(j+1),none⟩))
 | .bx _ b o=>some (.pointer (some ⟨b,o,none⟩))
 | .ag cs=>match X1 cs with
  |some r=>some (.agg ⟨r⟩)
  |none=>none
 | .tu _=>none
theorem AA5{x:XV}{v:Value}(h:dV x=some v):x.d=v:=by
 cases x with
 |v u=>cases h;rfl
 |sl k u=>cases h;rfl
 |el k u sz i j=>cases j<;>(cases h;rfl)
 |bx k b o=>cases h;rfl
 |ag cs=>
  simp only[dV]at h
  split at h
  ·rename_i r e;cases h;simp[XV.d,XV.d1,kY e]
  ·cases h
 |tu vs=>cases h
def dE(
    L:Env):Nat->XE->Option Env
 |0,_=>some L
 |n+1,(k,g,v)::X=>match dE L n X with
  |some L'=>match dV v with
   |some u=>match g with
    | .t=>some ((k,true,u)::L')
    | .g b=>some ((k,b,u)::L')
   |none=>none
  |none=>none
 |_,_=>none
theorem kZ{L:Env}: ∀ {n:Nat} {X:XE} {L':Env},dE L n X=some L'->(XE.d (X.take n))++L=L'
 |0,X,L',h=>by simp only[dE,Option.some.injEq]at h;subst h;rfl
 |n+1,[],L',h=>by cases h
 |n+1,(k,g,v)::X,L',h=>by
  unfold dE at h
  split at h
  ·rename_i e b
   split at h
   ·rename_i u hu
    show(k,g.d,v.d)::(XE.d (X.take n)++L)=L'
    rw[kZ b,AA5 hu]
    cases g<;>(cases h;rfl)
   ·cases h
  ·cases h
structure RR where
 l:List Oper
 L:Env
 O:Prop
 E:List Ck
def UH(W:Gd):List Prop->Prop->(Prop->Option RR)->Option RR
 |[],O,K=>K O
 |p::ps,O,K=>match W with
  | .t=>UH W ps (p/\O) K
  | .g b=>UH W ps ((b=false\/p)/\O) K
theorem cL{W:Gd}{K:Prop->Option RR}: ∀ {ps:List Prop} {O:Prop},∃i,UH W ps O K=K i/\(i->(W.d=true->IL ps)/\O)
 |[],O=>⟨O,rfl,λ h=>⟨λ _=>trivial,h⟩⟩
 |p::ps,O=>by
  unfold UH
  cases W with
  |t=>
   obtain⟨i,h1,e⟩:=cL (W:=.t) (K:=K) (ps:=ps) (O:=p/\O)
   exact⟨i,h1,λ h=>⟨λ j=>⟨(e h).2.1,(e h).1 j⟩,(e h).2.2⟩⟩
  |g b=>
   obtain⟨i,h1,e⟩:=cL (W:=.g b) (K:=K) (ps:=ps) (O:=(b=false\/p)/\O)
   exact⟨i,h1,λ h=>⟨λ j=>⟨(e h).2.1.resolve_left (by rw[show b=true from j];decide),(e h).1 j⟩,(e h).2.2⟩⟩
def cM(
     all:Array Oper) (L:XE) (gd:Option (Nat×Bool)):Option Gd:=
 match gd with
 |none=>some .t
 |some (
     j,want)=>match nth all.toList j with
  |some o=>match o.dst with
   |some d=>match BQ L d with
    |some (g,v)=>match LW v with
     |some b=>match want with
      |true=>match g with
       | .t=>some (.g b)
       | .g a=>some (.g (a&&b))
      |false=>match g with
       | .t=>some (.g (!b))
       | .g a=>some (.g (a&& !b))
     |none=>none
    |none=>none
   |none=>none
  |none=>none
theorem AA6{all:Array Oper}{L:XE}{gd:Option (Nat×Bool)}{W:Gd}(h:cM all L gd=some W):DY all L.d gd W.d:=by
 unfold cM at h
 split at h
 ·cases h;exact .none
 ·rename_i j want
  split at h
  ·rename_i o ho
   split at h
   ·rename_i d hd
    split at h
    ·rename_i g v hl
     split at h
     ·rename_i b k
      have:=O9 k;subst this
      have e:=I9 hl
      have i:(all[j]?).bind (·.dst)=some d:=by
       rw[IA]at ho
       simp only[Array.getElem?_toList]at ho
       rw[ho];exact hd
      split at h
      ·split at h<;>cases h
       ·exact .pos i e
       ·exact .j5 i e
      ·split at h<;>cases h
       ·exact .neg i e
       ·exact .j6 i e
     ·cases h
    ·cases h
   ·cases h
  ·cases h
def runs(
     T:TT) (N:Nat) (F:List (Nat×Kn)) (H:List (Nat×HX)) (all:Array Oper) (L:Env):Nat->Nat->List Oper->XE->Prop->List Ck->Option RR
 |0,i,l,X,O,E=>match dE L i X with
  |some L'=>some ⟨l,L',O,E⟩
  |none=>none
 |n+1,i,l,X,O,E=>match l with
  |⟨some d,op,ty,ps,af,gd⟩::rest=>match cM all X gd with
   |some W=>match R7 T F H X W op with
    |some (v,p,E')=>match Nat.blt d N with
     |true=>UH W p O λ O'=>runs T N F H all L n (i+1) rest ((d,W,v)::X) O' (E'++E)
     |false=>none
    |none=>none
   |none=>none
  |_=>none
theorem PV.rep {P:Program}{C:World->Prop}{X:XE}{L:Env}{W:Bool}{o:Oper}{v:Value}(h:PV P C X.d W o v)(b:JE X L):PV P C L W o v:=λ a N hs e w hw=>h a N (b.kV hs) e w hw
theorem l8{P:Program}{T:TT}(hT:DR P T){N:Nat}{F:List (Nat×Kn)}{H:List (Nat×HX)}{Hr:List HO}{w0 w:World}{M0 M:Mem}{C:World->Prop}{G:List Oper->Env->Prop}{all:Array Oper}{L:Env}(hF:BH M F)(hS:St w0 M0 w M (HD H++Hr))(hC: ∀w',C w'->Ext w w')
  (s: ∀ {d:Nat} {op:Op} {ty:TypeId} {ps:String} {af:Array Edge} {gd:Option (Nat×Bool)} {W:Bool} {v:Value} {rest:List Oper} {L:Env},DY all L gd W->PV P C L W ⟨some d,op,ty,ps,af,gd⟩ v->Nat.blt d N=true->G rest ((d,W,v)::L)->G (⟨some d,op,ty,ps,af,gd⟩::rest) L):
  ∀ {n i:Nat} {l:List Oper} {X:XE} {O:Prop} {E:List Ck} {r:RR},runs T N F H all L n i l X O E=some r->r.O->AA r.E->G r.l r.L->(AA E->JE X ((XE.d (X.take i))++L))->G l ((XE.d (X.take i))++L)/\O/\AA E
 |0,i,l,X,O,E,r,h,hO,hE,e,j=>by
  unfold runs at h
  split at h
  ·rename_i L' z
   cases h
   rw[kZ z];exact⟨e,hO,hE⟩
  ·cases h
 |n+1,i,l,X,O,E,r,h,hO,hE,e,j=>by
  unfold runs at h
  split at h
  ·rename_i d op ty ps af gd rest
   split at h
   ·rename_i W A
    split at h
    ·rename_i v p B D
     split at h
     ·rename_i hd
      obtain⟨y,h1,J⟩:=cL (W:=W) (K:=λ y=>runs T N F H all L n (i+1) rest ((d,W,v)::X) y (B++E)) (ps:=p) (O:=O)
      rw[h1]at h
      obtain⟨r1,Q,k⟩:=l8 hT hF hS hC s h hO hE e (λ hE2=>(j (AA.app hE2).2).put)
      obtain⟨hp,q⟩:=J Q
      have b:=j (AA.app k).2
      exact⟨s (λ a N hs=>AA6 A a N (b.kV hs)) ((U8 hT hF hS hC D (AA.app k).1 hp).rep b) hd r1,q,(AA.app k).2⟩
     ·cases h
    ·cases h
   ·cases h
  ·cases h
def hx:Nat->List HO->Option (List (Nat×HX)×List HO)
 |0,l=>some ([],l)
 |n+1,x::l=>match hx n l with
  |some (H,Hr)=>match x with
   | .box b cs t=>some ((n,.box b (EO cs) t)::H,Hr)
   |y=>some ((n,.ho y)::H,Hr)
  |none=>none
 |_,_=>none
theorem l9: ∀l:List Value,(EO l).map XV.d0=l
 |[]=>rfl
 |x::l=>by simp[EO,l9 l,XV.d0]
theorem cN: ∀ {n:Nat} {l:List HO} {H:List (Nat×HX)} {Hr:List HO},hx n l=some (H,Hr)->HD H++Hr=l
 |0,l,H,Hr,h=>by simp only[hx,Option.some.injEq,Prod.mk.injEq]at h;obtain⟨rfl,rfl⟩:=h;rfl
 |n+1,[],H,Hr,h=>by cases h
 |n+1,x::l,H,Hr,h=>by
  unfold hx at h
  split at h
  ·rename_i e b i
   split at h
   ·simp only[Option.some.injEq,Prod.mk.injEq]at h;obtain⟨rfl,rfl⟩:=h
    show(HX.box _ _ _).d::(HD e++b)=_
    rw[cN i];simp[HX.d,l9]
   ·simp only[Option.some.injEq,Prod.mk.injEq]at h;obtain⟨rfl,rfl⟩:=h
    show(HX.ho _).d::(HD e++b)=_
    rw[cN i];rfl
  ·cases h
def PN(T:TT)(N:Nat)(F:List (Nat×Kn))(m:Nat)(Hs:List HO)(all:Array Oper)(tg:List (Nat×Tg))(n:Nat)(l:List Oper)(L:Env):Option RR:=
 match hx m Hs with
 |some (H,_)=>match M4 tg L (kX all n l) [] []with
  |some (X,E)=>runs T N F H all L n 0 l X ((0:Int)=0) E
  |none=>none
 |none=>none
theorem cO{P:Program}{T:TT}(hT:DR P T){N:Nat}{F:List (Nat×Kn)}{m n:Nat}{Hs:List HO}{w0 w:World}{M0 M:Mem}{C:World->Prop}{G:List Oper->Env->Prop}{all:Array Oper}{e:List (Nat×Tg)}{l l':List Oper}{L L':Env}{O:Prop}{E:List Ck}(hF:BH M F)(hS:St w0 M0 w M Hs)(hC: ∀w',C w'->Ext w w')
  (i: ∀ {d:Nat} {op:Op} {ty:TypeId} {ps:String} {af:Array Edge} {gd:Option (Nat×Bool)} {W:Bool} {v:Value} {rest:List Oper} {L:Env},DY all L gd W->PV P C L W ⟨some d,op,ty,ps,af,gd⟩ v->Nat.blt d N=true->G rest ((d,W,v)::L)->G (⟨some d,op,ty,ps,af,gd⟩::rest) L)
  (h:PN T N F m Hs all e n l L=some ⟨l',L',O,E⟩) (hE:E.map Ck.diag=E) (hO:O) (j:G l' L'):G l L:=by
 unfold PN at h
 split at h
 ·rename_i H Hr hH
  split at h
  ·rename_i s E2 q
   have b:AA []->JE [] L:=λ _ k g v h=>by cases h
   obtain⟨r1,y,z⟩:=l8 (H:=H) (Hr:=Hr) hT hF (by rw[cN hH];exact hS) hC i h hO (AE hE) j (λ hE2=>(WZ q hE2 b).1)
   exact r1
  ·cases h
 ·cases h
section
variable {P:Program} [tab:kT P] {N:Nat} {w0 w:World} {M0 M:Mem} {Q:Exit->Act->World->Prop} {all:Array Oper} {l l':List Oper} {L L':Env} {O:Prop} {E:List Ck} {F:List (Nat×Kn)} {Hs:List HO} {C:World->Prop} {post:Act->Prop}
theorem RL.x (n m:Nat)(b:List (Nat×Tg))(hF:BH M F)(hS:St w0 M0 w M Hs)(h:PN tab.T N F m Hs all b n l L=some ⟨l',L',O,E⟩)(hE:E.map Ck.diag=E)(hO:O)(e:RL P all Q N l' L' w):RL P all Q N l L w:=
 cO (G:=λ l L=>RL P all Q N l L w) tab.ok hF hS H8 (λ h1 i j k=>RL.v h1 i j k) h hE hO e
theorem BD(w:World):St w nM w nM []:=Aj ⟨λ _ _ _ h=>by cases h⟩
theorem RL.o (n:Nat)(b:List (Nat×Tg))(h:PN tab.T N [] 0 [] all b n l L=some ⟨l',L',O,E⟩)(hE:E.map Ck.diag=E)(hO:O)(e:RL P all Q N l' L' w):RL P all Q N l L w:=RL.x n 0 b A4 (BD w) h hE hO e
theorem RL.p (n:Nat)(b:List (Nat×Tg))(h:PN tab.T N [] 0 [] all b n l L=some ⟨l',L',(0:Int)=0,E⟩)(hE:E.map Ck.diag=E)(e:RL P all Q N l' L' w):RL P all Q N l L w:=RL.o n b h hE U e
theorem RQ.x (n m:Nat)(b:List (Nat×Tg))(hF:BH M F)(hS:St w0 M0 w M Hs)(h:PN tab.T N F m Hs all b n l L=some ⟨l',L',O,E⟩)(hE:E.map Ck.diag=E)(hO:O)(e:RQ P all (λ w'=>Ext w w') N post l' L'):RQ P all (λ w'=>Ext w w') N post l L:=
 cO (G:=λ l L=>RQ P all (λ w'=>Ext w w') N post l L) tab.ok hF hS (λ _ h=>h) (λ h1 i j k=>RQ.v h1 i j k) h hE hO e
theorem RS.x {w1:World}(n m:Nat)(b:List (Nat×Tg))(hF:BH M F)(hS:St w0 M0 w1 M Hs)(h:PN tab.T N F m Hs all b n l L=some ⟨l',L',O,E⟩)(hE:E.map Ck.diag=E)(hO:O)(e:RS P all w1 N post l' L'):RS P all w1 N post l L:=
 cO (G:=λ l L=>RS P all w1 N post l L) tab.ok hF hS H8 (λ h1 i j k=>RS.v h1 i j k) h hE hO e
end
theorem AH{P:Program}{N:Nat}{w0 w:World}{M0 M:Mem}{Hr:List HO}{T:TT}(hT:DR P T){f:FuncId}{fn:Func}{x:Code}{R:Ending->World->Prop}(b:P.funcs[f]? =some fn)(e:fn.body=some x)(i:fn.ntmps=N)
  (F:List (Nat×Kn)) (H:List (Nat×HX)) (vs:List XV) (hl:Nat.ble vs.length N=true) (hS:St w0 M0 w M (HD H++Hr)) (hF:BH M F)
  (h: ∀B,Ends P fn R B->XG ⟨P,N,w0,M0,M,Hr,T,hT,.wide P⟩ B [] (.code x) ⟨F,H,N3 0 vs⟩) {av:List Value} (j:vs.map XV.d=av):Calls P f av.toArray w R:=by
 subst j
 refine CW.O7 b e i (by rw[List.length_map];exact Nat.le_of_ble_eq_true hl) λ Q k a hs=>?_
 have:=h Q k a w ⟨by rw[<-RD]at hs;exact hs,M,hS,hF,Mem.le.refl _⟩
 exact this
theorem AA7{α:Type}(f:α->List Value)(sz:Nat)(h: ∀x,(f x).length=sz)(l:List α)(a b j:Nat)(i:a<=b)(k:b<=l.length)(n:j<(b-a)*sz):
  (l.flatMap f)[a*sz+j]? =(((l.drop a).take (b-a)).flatMap f)[j]?:=by
 have e:l=l.take a++((l.drop a).take (b-a)++(l.drop a).drop (b-a)):=by rw[List.take_append_drop,List.take_append_drop]
 have e2:l.flatMap f=(l.take a).flatMap f++(((l.drop a).take (b-a)).flatMap f++((l.drop a).drop (b-a)).flatMap f):=by
  conv=>lhs;rw[e]
  rw[List.flatMap_append,List.flatMap_append]
 have h1:((l.take a).flatMap f).length=a*sz:=by rw[DC f sz h,List.length_take,Nat.min_eq_left Aa]
 have q:(((l.drop a).take (b-a)).flatMap f).length=(b-a)*sz:=by rw[DC f sz h,List.length_take,List.length_drop,Nat.min_eq_left Aa]
 rw[e2,List.getElem?_append_right Aa,h1,show a*sz+j-a*sz=j from by omega,List.getElem?_append_left Aa]
theorem cP{α:Type}{f:α->List Value}{M:Mem}{sz:Nat}{v:Value}{l:List α}(h:Sl M sz l.length v (l.flatMap f))(i: ∀x,(f x).length=sz){a b:Int}(h0:0<=a)(h1:a<=b)(q:b<=len l):
  ∃p cap,v= .slice p l.length cap/\l.length<=cap/\Sl M sz (Eng.sub l a b).length (sliced p a.toNat b.toNat cap sz) ((Eng.sub l a b).flatMap f):=by
 obtain⟨p,cap,s,w,hm,hp⟩:=h.val
 refine⟨p,cap,s,w,?_⟩
 unfold len at q
 have hl:(Eng.sub l a b).length=b.toNat-a.toNat:=by unfold Eng.sub;rw[List.length_take,List.length_drop];omega
 refine⟨by rw[DC f sz i],_,_,by unfold sliced;rw[hl],by rw[hl];omega,Aa,λ y=>?_⟩
 rw[hl]at y
 obtain⟨z,o,k,e⟩:=hp Aa
 refine⟨z,o+a.toNat*sz,by rw[if_neg Aa,k,Option.map_some,F2],λ j n=>?_⟩
 rw[DC f sz i,hl]at n
 have hlen:a.toNat*sz+j<(l.flatMap f).length:=by
  rw[DC f sz i]
  have:=Nat.mul_le_mul_right sz (show a.toNat+(b.toNat-a.toNat)<=l.length by omega)
  rw[Nat.add_mul]at this;omega
 rw[Nat.add_assoc,e _ hlen]
 exact AA7 f sz i l a.toNat b.toNat j Aa Aa n
section sl
variable {P:Program} {α:Type} {f:α->List Value} {M:Mem} {sz:Nat} {v:Value} {l:List α} {t e:TypeId}
theorem JF(b:P.underlying t=some (.slice e)):P.elem t=e:=by unfold Program.elem;rw[b]
theorem AA8(h:Sl M sz l.length v (l.flatMap f))(q: ∀x,(f x).length=sz)(j:P.underlying t=some (.slice e))(hs: ∀w,(sizeOf e).run P w= .ok sz w)(a b:Int)(s:0<=a/\a<=b/\b<=len l):
  ∃v',Sl M sz (Eng.sub l a b).length v' ((Eng.sub l a b).flatMap f)/\ ∀(k k':IntKind) w,(Instr.sliceAt t v (some (.int k a)) (some (.int k' b)) none).run P w= .ok v' w:=by
 obtain⟨h0,h1,n⟩:=s
 obtain⟨p,cap,y,z,hS⟩:=cP h q h0 h1 n
 have i:P.underlying t=some (.slice (P.elem t)):=by rw[JF j];exact j
 refine⟨_,hS,λ k k' w=>?_⟩
 rw[y,run_sliceAt_slice w t _ _ _ _ i,run_slice_lh w t p _ cap i k k' a b h0 h1 (by unfold len at n;omega),JF j,hs]
 rfl
theorem AA9(h:Sl M sz l.length v (l.flatMap f))(n: ∀x,(f x).length=sz)(j:P.underlying t=some (.slice e))(hs: ∀w,(sizeOf e).run P w= .ok sz w)(a b:Int)(q:0<=a/\a<=b/\b<=len l)(s:a=0:=by rfl):
  ∃v',Sl M sz (Eng.sub l a b).length v' ((Eng.sub l a b).flatMap f)/\ ∀(k':IntKind) w,(Instr.sliceAt t v none (some (.int k' b)) none).run P w= .ok v' w:=by
 subst s
 obtain⟨h0,h1,k⟩:=q
 obtain⟨p,cap,y,z,hS⟩:=cP h n h0 h1 k
 have i:P.underlying t=some (.slice (P.elem t)):=by rw[JF j];exact j
 refine⟨_,hS,λ k' w=>?_⟩
 rw[y,run_sliceAt_slice w t _ _ _ _ i,run_slice_h w t p _ cap i k' b h1 (by unfold len at k;omega),JF j,hs]
 rfl
theorem AB0(h:Sl M sz l.length v (l.flatMap f))(n: ∀x,(f x).length=sz)(j:P.underlying t=some (.slice e))(hs: ∀w,(sizeOf e).run P w= .ok sz w)(a b:Int)(q:0<=a/\a<=b/\b<=len l)(s:b=len l:=by rfl):
  ∃v',Sl M sz (Eng.sub l a b).length v' ((Eng.sub l a b).flatMap f)/\ ∀(k:IntKind) w,(Instr.sliceAt t v (some (.int k a)) none none).run P w= .ok v' w:=by
 subst s
 obtain⟨h0,h1,y⟩:=q
 obtain⟨p,cap,z,A,hS⟩:=cP h n h0 h1 y
 have i:P.underlying t=some (.slice (P.elem t)):=by rw[JF j];exact j
 refine⟨_,hS,λ k w=>?_⟩
 rw[z,run_sliceAt_slice w t _ _ _ _ i,run_slice_l w t p _ cap i k a h0 h1,JF j,hs]
 rfl
variable {C:World->Prop} {L:Env} {W:Bool} {d:Option Tmp} {ty:TypeId} {ps:String} {af:Array Edge} {gd:Option (Nat×Bool)} {x y z:Operand} {v':Value} {k k':IntKind} {a b:Int}
theorem PV.lA (hx:AB L W x v)(h:AB L W y (.int k a))(i:AB L W z (.int k' b))(j: ∀(k k':IntKind) w,(Instr.sliceAt t v (some (.int k a)) (some (.int k' b)) none).run P w= .ok v' w):PV P C L W ⟨d,.slice t x (some y) (some z) none,ty,ps,af,gd⟩ v':=by
 intro ac N hs e w _
 simp only[execOp,hx ac N hs e,Option.map_some,Option.map_none,h ac N hs e,i ac N hs e]
 rw[Sem.run_bind,j];rfl
theorem PV.lB (hx:AB L W x v)(h:AB L W z (.int k' b))(i: ∀(k':IntKind) w,(Instr.sliceAt t v none (some (.int k' b)) none).run P w= .ok v' w):PV P C L W ⟨d,.slice t x none (some z) none,ty,ps,af,gd⟩ v':=by
 intro ac N hs e w _
 simp only[execOp,hx ac N hs e,Option.map_some,Option.map_none,h ac N hs e]
 rw[Sem.run_bind,i];rfl
theorem PV.lC (hx:AB L W x v)(e:AB L W y (.int k a))(h: ∀(k:IntKind) w,(Instr.sliceAt t v (some (.int k a)) none none).run P w= .ok v' w):PV P C L W ⟨d,.slice t x (some y) none none,ty,ps,af,gd⟩ v':=by
 intro ac N hs b w _
 simp only[execOp,hx ac N hs b,Option.map_some,Option.map_none,e ac N hs b]
 rw[Sem.run_bind,h];rfl
end sl
inductive PR (α:Type)where
 |ok (x:α) (j:Int)
 |er (e p:Int)
abbrev PO(T:TypeId)(e p:Int):PanicEntry:= { v:=.iface T (.agg #[i64 e,i64 p]),recovered:=false}
def lD{α:Type}(w0:World)(M0 M:Mem)(Rs:List HO)(T:TypeId)(F:α->Int->Value->Mem->World->Prop)(r:PR α):Ending->World->Prop:=λ e w'=>
 match r with
 | .ok x j=> ∃v M',e= .returned v/\F x j v M' w'/\M.le M'
 | .er ec p=> ∃M',e= .panicked [PO T ec p]/\St w0 M0 w' M' Rs/\M.le M'
section
variable {P:Program} {α:Type} {w0 w:World} {M0 M M':Mem} {Rs:List HO} {T:TypeId} {F:α->Int->Value->Mem->World->Prop} {r:PR α}
theorem lD.ok {x:α}{j:Int}{v:Value}(h:r= .ok x j)(b:F x j v M' w)(hle:M.le M'):lD w0 M0 M Rs T F r (.returned v) w:=by
 subst h;exact⟨v,M',rfl,b,hle⟩
theorem Ends.p {fn:Func}{R:Ending->World->Prop}{Q:Exit->Act->World->Prop}{N:Nat}{L:Env}{b:List PanicEntry}(E:Ends P fn R Q)(h:R (.panicked b) w): ∀a,B1 a N L->Q (.panic b) a w:=λ a hs=>E.all _ _ _ ⟨hs.DZ,h⟩
variable {ops:Array Oper} {Q:Exit->Act->World->Prop} {N:Nat} {rest:List Oper} {L:Env} {ty:TypeId} {ps:String} {af:Array Edge} {tys:Array TypeId}
theorem RL.panic {d:Option Tmp}{x:Operand}{t:TypeId}{v:Value}(hx:AB L true x (.iface t v))(h: ∀a,B1 a N L->Q (.panic [{ v:=.iface t v,recovered:=false}]) a w):RL P ops Q N (⟨d,.panic x,ty,ps,af,none⟩::rest) L w:=by
 intro a hs
 refine wpList_plain U λ K b=>?_
 have key:(execOp a.eval ⟨d,.panic x,ty,ps,af,none⟩).run P w= .halt (.panic (.iface t v)) w:=by
  simp only[execOp,hx a N hs U];rw[Sem.run_bind,run_panic_iface];rfl
 simp only[Oper.wp,key,Oper.upon_panic]
 exact h a hs
end
section
variable {c:Cx} {B:Exit->Act->World->Prop} {k k':List Fr} {m:Md} {s s':XS} {O:Prop} {E:List Ck} {all:Array Oper} {rest:List Oper} {d:Nat} {ty:TypeId} {ps:String} {af:Array Edge}
theorem DS(kk:Nat)(K:Kn)(h: ∀w M,D1 c s.F s.H w M->K.ok M)(e:XG c B k m ⟨(kk,K)::s.F,s.H,s.L⟩):XG c B k m s:=λ a w ⟨h1,M,b⟩=>e a w ⟨h1,M,b.st,AG (h w M b) b.f,b.le⟩
theorem KR(t kk:Nat){v:Value}{g:Gd}(hl:BQ s.L t=some (g,.v v))(h:XG c B k m ⟨s.F,s.H,(t,g,.sl kk v)::s.L⟩):XG c B k m s:=λ a w ⟨h1,M,i⟩=>h a w ⟨⟨h1.size,h1.DZ,λ e j v' l=>by
 have b:look ((t,g.d,v)::s.L.d) e=some (j,v'):=l
 by_cases he:t=e
 ·subst he;rw[MY]at b;cases b;exact h1.val _ _ _ (I9 hl)
 ·rw[O0 he]at b;exact h1.val _ _ _ b⟩,M,i⟩
theorem DF{o:Oper}(h:run c.T c.N k m s=⟨k',.ops all (o::rest),s',O,E⟩)(b: ∀w M,D1 c s'.F s'.H w M->RL c.P all (Exit.then (c.W.list all (post c B k') rest) (post c B k')) c.N [o] s'.L.d w)(hE:AA E:=by exact Ad)(hO:O:=by exact Af):XG c B k m s:=
 CH h hE hO λ a w ⟨h1,M,e⟩=>c.W.one (b w M e a h1)
theorem DH{F:List (Nat×Kn)}{H:List (Nat×HX)}{L:XE}{L':Env}{l:List Oper}{w:World}{M:Mem}(h:XG c B k (.ops all l) ⟨F,H,L⟩)(b:D1 c F H w M)(e:L.d=L'):RL c.P all (Exit.then (c.W.list all (post c B k) l) (post c B k)) c.N [] L' w:=
 λ a hs=>c.W.back (h a w ⟨by rw[e];exact hs,M,b⟩)
theorem AU{op:Op}{gd:Option (Nat×Bool)}{W:Gd}(v:XV)(h:run c.T c.N k m s=⟨k',.ops all (⟨some d,op,ty,ps,af,gd⟩::rest),s',O,E⟩)(hg:(HA all s'.L gd,Nat.blt d c.N)=(some W,true))
  (hp: ∀w M,D1 c s'.F s'.H w M->PV c.P (· =w) s'.L.d W.d ⟨some d,op,ty,ps,af,gd⟩ v.d) (e:XG c B k' (.ops all rest) ⟨s'.F,s'.H,(d,W,v)::s'.L⟩) (hE:AA E:=by exact Ad) (hO:O:=by exact Af):XG c B k m s:=by
 simp only[Prod.mk.injEq]at hg
 exact DF h (hE:=hE) (hO:=hO) λ w M b=>RL.v (LX hg.1) (hp w M b) hg.2 (DH e b U)
theorem BA(kk:Nat){t:TypeId}{z:Value}{cs:List XV}(h:run c.T c.N k m s=⟨k',.ops all (⟨some d,.alloc t,ty,ps,af,none⟩::rest),s',O,E⟩)(i: ∀w,(zeroValue t).run c.P w= .ok z w)(hd:(Nat.blt d c.N,R4 z.cells.toList)=(true,some cs))
  (j: ∀b,XG c B k' (.ops all rest) ⟨s'.F,(kk,.box b cs t)::s'.H,(d,.t,.bx kk b 0)::s'.L⟩) (hE:AA E:=by exact Ad) (hO:O:=by exact Af):XG c B k m s:=by
 simp only[Prod.mk.injEq]at hd
 refine DF h (hE:=hE) (hO:=hO) λ w M e=>RL.alloc e.st i hd.1 λ w' b hS=>DH (j b) ⟨?_,e.f,e.le⟩ U
 show St _ _ _ _ (.box b (cs.map XV.d0) t::(HD s'.H++c.Hr))
 rw[WM _ _ hd.2];exact hS
theorem BP(kk:Nat){t:TypeId}{x:Operand}{v:XV}{cs:List XV}{E1 E2:List Ck}(h:run c.T c.N k m s=⟨k',.ops all (⟨some d,.box t x,ty,ps,af,none⟩::rest),s',O,E⟩)(hx:B8 s'.L .t x=some (v,E1))(hd:(Nat.blt d c.N,cellsOf v,UE s'.F s'.H cs)=(true,some cs,some E2))
  (n: ∀b,XG c B k' (.ops all rest) ⟨s'.F,(kk,.box b cs t)::s'.H,(d,.t,.bx kk b 0)::s'.L⟩) (hE:AA E:=by exact Ad) (hO:O:=by exact Af) (hE1:AA (E1++E2):=by exact Ad):XG c B k m s:=by
 simp only[Prod.mk.injEq]at hd
 refine DF h (hE:=hE) (hO:=hO) λ w M j=>RL.box j.st (A8 hx (hE:=hE1.app.1)) hd.1 λ w' b hS=>DH (n b) ⟨?_,j.f,j.le⟩ U
 have l:=RC j.f j.st hd.2.2 hE1.app.2
 have i:v.d.cells.toList=cs.map XV.d0:=by
  rcases kP hd.2.1 with q|⟨u,rfl,rfl,y,z⟩
  ·exact q
  ·have e:v.d=v.d0:=by cases v<;>first|rfl|(exact absurd rfl (y _))|(exact absurd rfl (z _))
   rw[e,WS (l _ (by simp))];rfl
 show St _ _ _ _ (.box b (cs.map XV.d0) t::(HD s'.H++c.Hr))
 rw[<-i];exact hS
theorem UI{α:Type}[Inhabited α](kk t:Nat)(e:TypeId)(sz:Nat)(f:α->List Value)(n: ∀x,(f x).length=sz)(hl:BQ s.L t=some (.t,.v (.slice none 0 0)))
  (q:XG c B k m ⟨(kk,kn (.slice none 0 0) sz ([]:List α) f)::s.F,(kk,.ho (.own e sz (.slice none 0 0) ([]:List α).length (([]:List α).flatMap f)))::s.H,(t,.t,.sl kk (.slice none 0 0))::s.L⟩):XG c B k m s:=by
 intro a w ⟨h1,M,h⟩
 refine q a w ⟨⟨h1.size,h1.DZ,λ j g v l=>?_⟩,M,h.st.jI e sz,AG ⟨?_,n,trivial⟩ h.f,h.le⟩
 ·have i:=I9 hl
  by_cases he:t=j
  ·subst he
   have b:look ((t,true,Value.slice none 0 0)::s.L.d) t=some (g,v):=l
   rw[MY]at b;cases b
   exact h1.val _ _ _ i
  ·have b:look ((t,true,Value.slice none 0 0)::s.L.d) j=some (g,v):=l
   rw[O0 he]at b
   exact h1.val _ _ _ b
 ·exact Sl.nil M sz
def RE(L:XE):List (Nat×Operand)->Option (List (Nat×XV)×List Ck)
 |[]=>some ([],[])
 |(i,x)::xs=>match B8 L .t x with
  |some (v,E)=>match RE L xs with
   |some (vs,E')=>some ((i,v)::vs,E++E')
   |none=>none
  |none=>none
theorem cQ{L:XE}: ∀ {xs:List (Nat×Operand)} {vs:List (Nat×XV)} {E:List Ck},RE L xs=some (vs,E)->AA E->GS L.d true xs (vs.map λ x=>(x.1,x.2.d))
 |[],vs,E,h,_=>by simp only[RE,Option.some.injEq,Prod.mk.injEq]at h;obtain⟨rfl,rfl⟩:=h;exact .nil
 |(i,x)::xs,vs,E,h,hE=>by
  unfold RE at h
  split at h
  ·rename_i v E1 h1
   split at h
   ·rename_i b E2 e
    simp only[Option.some.injEq,Prod.mk.injEq]at h;obtain⟨rfl,rfl⟩:=h
    exact .cons (A8 h1 (hE:=hE.app.1)) (cQ e hE.app.2)
   ·cases h
  ·cases h
theorem BF{α:Type}[Inhabited α](kk:Nat)(l:List α)(f:α->List Value)(sz:Nat)(e:TypeId){t:TypeId}{n:Nat}{xs:List (Nat×Operand)}{vs:List (Nat×XV)}{E1:List Ck}(q: ∀x,(f x).length=sz)(h:run c.T c.N k m s=⟨k',.ops all (⟨some d,.buildSlice t n ⟨xs⟩,ty,ps,af,none⟩::rest),s',O,E⟩)
  (hx:RE s'.L xs=some (vs,E1)) (y: ∀w,(Instr.buildSlice t n (vs.map λ x=>(x.1,x.2.d)).toArray).run c.P w= .ok (.slice (some ⟨w.heap.size,0,none⟩) n n) (w.alloc (.cells (l.flatMap f).toArray e))) (hd:(Nat.blt d c.N,Nat.beq l.length n,Nat.ble n 9223372036854775807)=(true,true,true))
  (z: ∀v,XG c B k' (.ops all rest) ⟨(kk,kn v sz l f)::s'.F,(kk,.ho (.own e sz v l.length (l.flatMap f)))::s'.H,(d,.t,.sl kk v)::s'.L⟩) (hE:AA E:=by exact Ad) (hO:O:=by exact Af) (hE1:AA E1:=by exact Ad):XG c B k m s:=by
 simp only[Prod.mk.injEq]at hd
 have b:=Nat.eq_of_beq_eq_true hd.2.1
 subst b
 refine DF h (hE:=hE) (hO:=hO) λ w M j=>?_
 have A:(⟨xs⟩:Array (Nat×Operand))=xs.toArray:=rfl
 rw[A]
 refine RL.buildSlice (cs:=l.flatMap f) j.st (cQ hx hE1) (DC f sz q l) hd.2.2 y hd.1 λ v w' M' hS hle=>DH (z v) ⟨hS,AG ⟨hS.sl (i:=0) U,q,trivial⟩ λ x hx=>(j.f x hx).mono hle,j.le.trans hle⟩ U
theorem F5(by':Nat){α:Type}[inh:Inhabited α]{l b:List α}{f:α->List Value}{t e:TypeId}{x y:Operand}{i:TypeInfo}{z v vx:Value}{kk R sz:Nat}{E1:List Ck}{g1 g2:Mem->Prop}{A: ∀M M',M.le M'->g1 M->g1 M'}{C: ∀M M',M.le M'->g2 M->g2 M'}
  (h:run c.T c.N k m s=⟨k',.ops all (⟨some d,.call ⟨.builtin .append,#[x,y],#[t,t]⟩,ty,ps,af,none⟩::rest),s',O,E⟩) (hx:H9 s'.L .t x y=some (.sl kk v,.sl R vx,E1))
  (S:(K8 s'.F kk,K8 s'.F R,D0 s'.H kk)=(some (@Kn.mk α inh v sz l f g1 A),some (@Kn.mk α inh vx sz b f g2 C),some (.ho (.own e sz v l.length (l.flatMap f)))))
  (W:c.P.underlying t=some (.slice e)) (hi:c.P.info? e=some i) (X:i.zero=some z) (hs:(i.size,z.cells.size,i.bytes,Nat.blt 0 by',Nat.blt d c.N)=(sz,sz,by',true,true)) (h1: ∀x,∀u∈f x,u.oneCell'=true) (hb:(len l+len b)*by'<=140737488355328)
  (hn: ∀v',XG c B k' (.ops all rest) ⟨(kk,kn v' sz (l++b) f)::s'.F,CB s'.H kk (.ho (.own e sz v' (l++b).length ((l++b).flatMap f))),(d,.t,.sl kk v')::s'.L⟩) (hE:AA E:=by exact Ad) (hO:O:=by exact Af) (hE1:AA E1:=by exact Ad):XG c B k m s:=by
 simp only[Prod.mk.injEq]at S hs
 obtain⟨D,G,J⟩:=S
 refine DF h (hE:=hE) (hO:=hO) λ w M q=>?_
 obtain⟨j,V,n⟩:=DP (Hr:=c.Hr) J
 obtain⟨K,Q⟩:=FF hx hE1
 refine RL.yE (f:=f) (l:=l) (m:=b) (by':=by') q.st V K Q (q.f.get G).sl W hi X hs.1 hs.2.1 h1 hs.2.2.1 hs.2.2.2.1 hb hs.2.2.2.2 (Hs':=λ v'=>HD (CB s'.H kk (.ho (.own e sz v' (l++b).length ((l++b).flatMap f))))++c.Hr) (λ v'=>(n (.ho (.own e sz v' (l++b).length ((l++b).flatMap f)))).symm) λ v' w' M' hS hle=>DH (hn v') ⟨hS,AG ⟨?_,(q.f.get D).sz,trivial⟩ λ x hx=>(q.f x hx).mono hle,q.le.trans hle⟩ U
 have h5:(HD (CB s'.H kk (.ho (.own e sz v' (l++b).length ((l++b).flatMap f))))++c.Hr)[j]? =some (.own e sz v' (l++b).length ((l++b).flatMap f)):=by
  rw[n];rw[List.getElem?_set_self (List.getElem?_eq_some_iff.1 V).1];rfl
 exact hS.sl h5
theorem FO{α:Type}[inh:Inhabited α](kk:Nat)(a b:Int){l:List α}{f:α->List Value}{t e:TypeId}{x:Operand}{lo hi:Option Operand}{v:Value}{kx sz:Nat}{E1:List Ck}{gd:Option (Nat×Bool)}{g1:Mem->Prop}{Q: ∀M M',M.le M'->g1 M->g1 M'}
  (h:run c.T c.N k m s=⟨k',.ops all (⟨some d,.slice t x lo hi none,ty,ps,af,none⟩::rest),s',O,E⟩) (hx:B8 s'.L .t x=some (.sl kx v,E1)) (hk:K8 s'.F kx=some (@Kn.mk α inh v sz l f g1 Q))
  (D:match lo with|some y=> ∃K,∃E,B8 s'.L .t y=some (.v (.int K a),E)/\AA E|none=>a=0) (j:match hi with|some y=> ∃K,∃E,B8 s'.L .t y=some (.v (.int K b),E)/\AA E|none=>b=len l)
  (R:c.P.underlying t=some (.slice e)) (hs: ∀w,(sizeOf e).run c.P w= .ok sz w) (S:0<=a/\a<=b/\b<=len l) (V:(lo.isSome||hi.isSome)=true)
  (W: ∀v',XG c B k' (.ops all rest) ⟨(kk,kn v' sz (Eng.sub l a b) f)::s'.F,s'.H,(d,.t,.sl kk v')::s'.L⟩) (hE:AA E:=by exact Ad) (hO:O:=by exact Af) (hE1:AA E1:=by exact Ad) (hd:Nat.blt d c.N=true:=by exact rfl):XG c B k m s:=by
 refine DF h (hE:=hE) (hO:=hO) λ w M i=>?_
 have n:=i.f.get hk
 have q:Sl M sz l.length v (l.flatMap f):=n.sl
 have A:=A8 hx (hE:=hE1)
 cases lo with
 |some y=>
  obtain⟨K,E2,h2,hE2⟩:=D
  cases hi with
  |some z=>
   obtain⟨X,E3,h3,C⟩:=j
   obtain⟨v',G,J⟩:=AA8 (P:=c.P) q n.sz R hs a b S
   exact RL.v .none (.lA A (A8 h2 (hE:=hE2)) (A8 h3 (hE:=C)) J) hd (DH (W v') ⟨i.st,AG ⟨G,n.sz,trivial⟩ i.f,i.le⟩ U)
  |none=>
   have hb:b=len l:=j
   subst hb
   obtain⟨v',G,J⟩:=AB0 (P:=c.P) q n.sz R hs a (len l) S
   exact RL.v .none (.lC A (A8 h2 (hE:=hE2)) J) hd (DH (W v') ⟨i.st,AG ⟨G,n.sz,trivial⟩ i.f,i.le⟩ U)
 |none=>
  have ha:a=0:=D
  subst ha
  cases hi with
  |some z=>
   obtain⟨X,E3,h3,C⟩:=j
   obtain⟨v',G,J⟩:=AA9 (P:=c.P) q n.sz R hs 0 b S
   exact RL.v .none (.lB A (A8 h3 (hE:=C)) J) hd (DH (W v') ⟨i.st,AG ⟨G,n.sz,trivial⟩ i.f,i.le⟩ U)
  |none=>cases V
theorem IM{α:Type}[inh:Inhabited α](kk:Nat)(l:List α)(f:α->List Value)(sz:Nat)(e:TypeId){t:TypeId}{n:Nat}{xs:List (Nat×Operand)}{vs:List (Nat×XV)}{E1:List Ck}(j: ∀x,(f x).length=sz)(h:run c.T c.N k m s=⟨k',.ops all (⟨some d,.buildSlice t n ⟨xs⟩,ty,ps,af,none⟩::rest),s',O,E⟩)
  (hx:RE s'.L xs=some (vs,E1)) (q: ∀w,(Instr.buildSlice t n (vs.map λ x=>(x.1,x.2.d)).toArray).run c.P w= .ok (.slice (some ⟨w.heap.size,0,none⟩) n n) (w.alloc (.cells (l.flatMap f).toArray e))) (hd:(Nat.blt d c.N,Nat.beq l.length n,Nat.ble n 9223372036854775807)=(true,true,true))
  (y: ∀v,XG c B k' (.ops all rest) ⟨s'.F,(kk,.pv e (@kn α inh v sz l f) j)::s'.H,(d,.t,.sl kk v)::s'.L⟩) (hE:AA E:=by exact Ad) (hO:O:=by exact Af) (hE1:AA E1:=by exact Ad):XG c B k m s:=by
 simp only[Prod.mk.injEq]at hd
 have b:=Nat.eq_of_beq_eq_true hd.2.1
 subst b
 refine DF h (hE:=hE) (hO:=hO) λ w M i=>?_
 have z:(⟨xs⟩:Array (Nat×Operand))=xs.toArray:=rfl
 rw[z]
 exact RL.zE (cs:=l.flatMap f) i.st (cQ hx hE1) (DC f sz j l) hd.2.2 q hd.1 λ v w' hS=>DH (y v) ⟨hS,i.f,i.le⟩ U
theorem cS{α:Type}[inh:Inhabited α](kk t:Nat)(e:TypeId)(sz:Nat)(f:α->List Value)(n: ∀x,(f x).length=sz)(hl:BQ s.L t=some (.t,.v (.slice none 0 0)))
  (q:XG c B k m ⟨s.F,(kk,.pv e (@kn α inh (.slice none 0 0) sz [] f) n)::s.H,(t,.t,.sl kk (.slice none 0 0))::s.L⟩):XG c B k m s:=by
 intro a w ⟨h1,M,h⟩
 refine q a w ⟨⟨h1.size,h1.DZ,λ j g v l=>?_⟩,M,h.st.bW e sz,h.f,h.le⟩
 have i:=I9 hl
 by_cases he:t=j
 ·subst he
  have b:look ((t,true,Value.slice none 0 0)::s.L.d) t=some (g,v):=l
  rw[MY]at b;cases b
  exact h1.val _ _ _ i
 ·have b:look ((t,true,Value.slice none 0 0)::s.L.d) j=some (g,v):=l
  rw[O0 he]at b
  exact h1.val _ _ _ b
theorem IB(by':Nat){α:Type}[inh:Inhabited α]{l n:List α}{f:α->List Value}{t e:TypeId}{x y:Operand}{i:TypeInfo}{z v vx:Value}{kk K sz:Nat}{E1:List Ck}{q: ∀x,(f x).length=sz}{g2:Mem->Prop}{C: ∀M M',M.le M'->g2 M->g2 M'}
  (h:run c.T c.N k m s=⟨k',.ops all (⟨some d,.call ⟨.builtin .append,#[x,y],#[t,t]⟩,ty,ps,af,none⟩::rest),s',O,E⟩) (hx:H9 s'.L .t x y=some (.sl kk v,.sl K vx,E1))
  (D:(K8 s'.F K,D0 s'.H kk)=(some (@Kn.mk α inh vx sz n f g2 C),some (.pv e (@kn α inh v sz l f) q)))
  (Q:c.P.underlying t=some (.slice e)) (hi:c.P.info? e=some i) (R:i.zero=some z) (hs:(i.size,z.cells.size,i.bytes,Nat.blt 0 by',Nat.blt d c.N)=(sz,sz,by',true,true)) (h1: ∀x,∀u∈f x,u.oneCell'=true) (S:(len l+len n)*by'<=140737488355328)
  (V: ∀v',XG c B k' (.ops all rest) ⟨s'.F,CB s'.H kk (.pv e (@kn α inh v' sz (l++n) f) q),(d,.t,.sl kk v')::s'.L⟩) (hE:AA E:=by exact Ad) (hO:O:=by exact Af) (hE1:AA E1:=by exact Ad):XG c B k m s:=by
 simp only[Prod.mk.injEq]at hs D
 refine DF h (hE:=hE) (hO:=hO) λ w M A=>?_
 obtain⟨j,W,b⟩:=DP (Hr:=c.Hr) D.2
 obtain⟨G,J⟩:=FF hx hE1
 exact RL.zF (f:=f) (l:=l) (m:=n) (by':=by') A.st W G J (A.f.get D.1).sl Q hi R hs.1 hs.2.1 h1 hs.2.2.1 hs.2.2.2.1 S hs.2.2.2.2 (Hs':=λ v'=>HD (CB s'.H kk (.pv e (@kn α inh v' sz (l++n) f) q))++c.Hr) (λ v'=>(b (.pv e (@kn α inh v' sz (l++n) f) q)).symm) λ v' w' hS=>DH (V v') ⟨hS,A.f,A.le⟩ U
theorem C2{α:Type}[inh:Inhabited α](kk:Nat){e:TypeId}{v:Value}{sz:Nat}{l:List α}{f:α->List Value}{hl: ∀x,(f x).length=sz}{h:List (Nat×HX)}(n:LY s.H kk=some (.pv e (@kn α inh v sz l f) hl,h))(q:XG c B k m ⟨(kk,@kn α inh v sz l f)::s.F,h,s.L⟩):XG c B k m s:=by
 intro a w ⟨h1,M,j⟩
 have hS:=j.st.perm (Hs':=HX.d (.pv e (@kn α inh v sz l f) hl)::(HD h++c.Hr)) (by have:=(WX n).append_right c.Hr;exact this)
 have hi:(HX.d (.pv e (@kn α inh v sz l f) hl)::(HD h++c.Hr))[0]? =some (.priv e sz v l.length (l.flatMap f)):=rfl
 obtain⟨M',b,hle⟩:=hS.show hi
 refine q a w ⟨h1,M',b.erase 0 U,AG ⟨b.sl (i:=0) U,hl,trivial⟩ λ x hx=>(j.f x hx).mono hle,j.le.trans hle⟩
theorem HU{α:Type}[inh:Inhabited α](b:α){l:List α}{f:α->List Value}{t e:TypeId}{x y:Operand}{v:Value}{kk sz j n:Nat}{i:Int}{E1:List Ck}{u:XV}{A: ∀x,(f x).length=sz}
  (h:run c.T c.N k m s=⟨k',.ops all (⟨none,.store t x y,ty,ps,af,none⟩::rest),s',O,E⟩) (hx:H9 s'.L .t x y=some (.el kk v sz i j,u,E1)) (V:D0 s'.H kk=some (.pv e (@kn α inh v sz l f) A))
  (W: ∀w,(sizeOf t).run c.P w= .ok n w) (hu:u.d.cells.toList.length=n) (G:(Nat.blt 0 n,Nat.ble (j+n) sz,u.d.cells.toList.all (·.oneCell'))=(true,true,true)) (X:C1 (f (at' l i)) j u.d.cells.toList=f b) (S:0<=i/\i<len l)
  (hn: ∀l',l'=l.set i.toNat b->XG c B k' (.ops all rest) ⟨s'.F,CB s'.H kk (.pv e (@kn α inh v sz l' f) A),s'.L⟩) (hE:AA E:=by exact Ad) (hO:O:=by exact Af) (hE1:AA E1:=by exact Ad):XG c B k m s:=by
 simp only[Prod.mk.injEq]at G
 refine DF h (hE:=hE) (hO:=hO) λ w M J=>?_
 obtain⟨q,hq,z⟩:=DP (Hr:=c.Hr) V
 obtain⟨K,Q⟩:=FF hx hE1
 obtain⟨C,_⟩:=CG l S.1 S.2
 have R:=Nat.le_of_ble_eq_true G.2.1
 have D:i.toNat*sz+j+n<=(l.flatMap f).length:=by
  rw[DC f sz A]
  have:=Nat.mul_le_mul_right sz (show i.toNat+1<=l.length from C)
  rw[Nat.add_mul]at this;omega
 refine RL.zG (P:=c.P) (o:=i.toNat*sz+j) (xs':=(l.set i.toNat b).flatMap f) (Hs':=HD (CB s'.H kk (.pv e (@kn α inh v sz (l.set i.toNat b) f) A))++c.Hr) J.st hq (by have:=K;simp only[XV.d,XV.d1,XV.d0,Nat.add_assoc]at this ⊢;exact this) Q W hu G.1 D G.2.2 (zH A l i.toNat b j _ C X (by rw[hu];exact R)) ?_ λ w' hS=>DH (hn _ U) ⟨hS,J.f,J.le⟩ U
 rw[z]
 show(HD s'.H++c.Hr).set q (.priv e sz v l.length ((l.set i.toNat b).flatMap f))=(HD s'.H++c.Hr).set q (.priv e sz v (l.set i.toNat b).length ((l.set i.toNat b).flatMap f))
 rw[List.length_set]
def RF(J:XS->Prop):List Fr->Nat->Option (List Fr×Code×List Fr)
 |[],_=>none
 |x::k,0=>match x with
  | .seq y=>some (.loop J::k,y,k)
  |_=>none
 |x::k,n+1=>match RF J k n with
  |some (a,y,b)=>some (x::a,y,b)
  |none=>none
theorem cT{J:XS->Prop}: ∀ {k:List Fr} {n:Nat} {a b:List Fr} {y:Code},RF J k n=some (a,y,b)-> ∃p,k=p++ .seq y::b/\a=p++ .loop J::b
 |[],_,_,_,_,h=>by cases h
 |x::k,0,a,b,e,h=>by
  simp only[RF]at h
  split at h
  ·simp only[Option.some.injEq,Prod.mk.injEq]at h;obtain⟨rfl,rfl,rfl⟩:=h;exact⟨[],rfl,rfl⟩
  ·cases h
 |x::k,n+1,a,b,e,h=>by
  simp only[RF]at h
  split at h
  ·rename_i a2 q s i
   simp only[Option.some.injEq,Prod.mk.injEq]at h;obtain⟨rfl,rfl,rfl⟩:=h
   obtain⟨p,j,l⟩:=cT i
   exact⟨x::p,by rw[j];rfl,by rw[l];rfl⟩
  ·cases h
theorem RG{n b:Act->World->Prop}{Q Q':Exit->Act->World->Prop}(i: ∀a w,n a w->b a w)(j: ∀e a w,Q e a w->Q' e a w)(e:Exit)(a:Act)(w:World)(h:Exit.then n Q e a w):Exit.then b Q' e a w:=by
 cases e<;>first|exact i _ _ h|exact j _ _ _ h
theorem M5{K j:List Fr}(h: ∀e a w,post c B K e a w->post c B j e a w): ∀(p:List Fr) (e:Exit) (a:Act) (w:World),post c B (p++K) e a w->post c B (p++j) e a w
 |[],e,a,w,q=>h e a w q
 | .seq y::p,e,a,w,q=>RG (λ _ _ h1=>c.W.mono h1 (M5 h p)) (M5 h p) e a w q
 | .block id::p,e,a,w,q=>by
  cases e with
  |exit b=>
   show if b=id then _ else _
   have i:if b=id then _ else _:=q
   split<;>rename_i hid
   ·rw[if_pos hid]at i;exact M5 h p _ a w i
   ·rw[if_neg hid]at i;exact M5 h p _ a w i
  |_=>exact M5 h p _ a w q
 | .scope::p,e,a,w,q=>by cases e<;>first|exact q.elim|exact M5 h p _ a w q
 | .loop J::p,e,a,w,q=>RG (λ _ _ h1=>h1) (M5 h p) e a w q
theorem CP(n:Nat)(J:XS->Prop){b:Bool}{x y z:Code}{i q:List Fr}(h:run c.T c.N k m s=⟨k',.br b x y,s',O,E⟩)(l:RF J k' n=some (i,z,q))
  (A:b=true->XG c B i (.code x) s') (C:b=false->XG c B i (.code y) s') (D: ∀s',J s'->XG c B q (.code z) s') (hE:AA E:=by exact Ad) (hO:O:=by exact Af):XG c B k m s:=by
 obtain⟨p,rfl,rfl⟩:=cT l
 have hm: ∀e a w,post c B (.loop J::q) e a w->post c B (.seq z::q) e a w:=λ e a w h=>RG (λ a w ⟨s',F,hs⟩=>D s' F a w hs) (λ _ _ _ h=>h) e a w h
 exact A1 h (hE:=hE) (hO:=hO) (λ j a w hs=>c.W.mono (A j a w hs) (M5 hm p)) (λ j a w hs=>c.W.mono (C j a w hs) (M5 hm p))
theorem AW{J:XS->Prop}(s2:XS)(h:run c.T c.N k m s=⟨.loop J::k',.next,s',O,E⟩)(h0:(⟨JC s2.F s'.F,JD s2.H s'.H,GH (keys s2.L) s'.L⟩:XS)=s2)(b:J s2)(hE:AA E:=by exact Ad)(hO:O:=by exact Af):XG c B k m s:=
 CH h hE hO λ a w hs=>⟨s2,b,hs.sub (XS.N4 h0)⟩
end
def N5{γ:Type}(w:World)(M:Mem)(u:γ->Value)(pu:γ->Prop)(Fg:γ->List (Nat×Kn)):Ending->World->Prop:=
 λ e w'=> ∃g M',e= .returned (u g)/\pu g/\Grow w M w' M'/\BH M' (Fg g)
def BJ{γ:Type}(w0:World)(M0 M:Mem)(Rs:List HO)(u:γ->Value)(pu:γ->Prop)(Fg:γ->List (Nat×Kn))(Hg:γ->List HO):Ending->World->Prop:=
 λ e w'=> ∃g M',e= .returned (u g)/\pu g/\M.le M'/\St w0 M0 w' M' (Hg g++Rs)/\BH M' (Fg g)
def PQ:List Nat->List (Nat×Kn)->List (Nat×Kn)
 |k::ks,(_,x)::F=>(k,x)::PQ ks F
 |_,_=>[]
theorem UJ{M:Mem}: ∀ {e:List Nat} {F:List (Nat×Kn)},BH M F->BH M (PQ e F)
 |[],_,_=>λ x hx=>by cases hx
 |_::_,[],_=>λ x hx=>by cases hx
 |k::e,(i,x)::F,h=>λ y b=>by
  rcases List.mem_cons.1 b with rfl|b
  ·exact h (i,x) (.head _)
  ·exact UJ (λ z j=>h z (.tail _ j)) y b
theorem BH.app {M:Mem}{F G:List (Nat×Kn)}(h:BH M F)(k:BH M G):BH M (F++G):=λ x hx=>by
 rcases List.mem_append.1 hx with hx|hx
 ·exact h x hx
 ·exact k x hx
theorem BH.mono {M M':Mem}{F:List (Nat×Kn)}(h:BH M F)(hm:M.le M'):BH M' F:=λ x hx=>(h x hx).mono hm
def GI:List Nat->List (Nat×HX)->Option (List (Nat×HX)×List (Nat×HX))
 |[],H=>some ([],H)
 |k::ks,H=>match LY H k with
  |some (x,H')=>match GI ks H' with
   |some (A,R)=>some ((k,x)::A,R)
   |none=>none
  |none=>none
theorem PS: ∀ {b:List Nat} {H A R:List (Nat×HX)},GI b H=some (A,R)->(HD A++HD R).Perm (HD H)
 |[],H,A,R,h=>by simp only[GI,Option.some.injEq,Prod.mk.injEq]at h;obtain⟨rfl,rfl⟩:=h;exact .refl _
 |k::b,H,A,R,h=>by
  unfold GI at h
  split at h
  ·rename_i x i h1
   split at h
   ·rename_i j l e
    simp only[Option.some.injEq,Prod.mk.injEq]at h;obtain⟨rfl,rfl⟩:=h
    exact((PS e).cons x.d).trans (WX h1)
   ·cases h
  ·cases h
def cU(dd:Option Tmp)(v:XV)(L:XE):XE:=match dd with
 |some d=>(d,.t,v)::L
 |none=>L
def lE(dd:Option Tmp)(N:Nat):Bool:=match dd with
 |some d=>Nat.blt d N
 |none=>true
section
variable {c:Cx} {B:Exit->Act->World->Prop} {k k':List Fr} {m:Md} {s s':XS} {O:Prop} {E:List Ck} {all:Array Oper} {rest:List Oper} {d:Nat} {ty:TypeId} {ps:String} {af:Array Edge}
theorem D1.sl {F:List (Nat×Kn)}{H:List (Nat×HX)}{w:World}{M:Mem}(h:D1 c F H w M)(k:Nat){α:Type}{inh:Inhabited α}{v:Value}{sz:Nat}{l:List α}{f:α->List Value}{g:Mem->Prop}{hg: ∀M M',M.le M'->g M->g M'}(b:K8 F k=some (@Kn.mk α inh v sz l f g hg)):Sl M sz l.length v (l.flatMap f):=(h.f.get b).sl
def callee(L:XE):Operand->Option (FuncId×List Value×List Value×List Ck)
 | .func f=>some (f,[],[],[])
 |x=>match B8 L .t x with
  |some (.v (.func (.func f) ⟨a⟩ ⟨b⟩),E)=>some (f,a,b,E)
  |_=>none
theorem cV{P:Program}{ops:Array Oper}{Q:Exit->Act->World->Prop}{N:Nat}{L:XE}{w:World}{j:Operand}{f:FuncId}{a b:List Value}{E1:List Ck}{xs:List Operand}{vs:List Value}{tys:Array TypeId}{R:Ending->World->Prop}{n:Option Tmp}
  (k:CT P f) (h:callee L j=some (f,a,b,E1)) (hE1:AA E1) (hx:EH L.d true xs vs) (y:Calls P f (a++vs++b).toArray w R)
  (z: ∀v w',R (.returned v) w'-> ∀ac,B1 ac N L.d->wpList P ops Q rest (ac.put n v) w') (hp: ∀l w',R (.panicked l) w'-> ∀ac,B1 ac N L.d->Q (.panic l) ac w') (ho: ∀w',¬R .outgrown w'):
  RL P ops Q N (⟨n,.call ⟨.value j,⟨xs⟩,tys⟩,ty,ps,af,none⟩::rest) L.d w:=by
 intro ac hs
 refine wpList_plain U λ K A=>?_
 have key:(execOp ac.eval ⟨n,.call ⟨.value j,⟨xs⟩,tys⟩,ty,ps,af,none⟩).run P w= .ok (.enter f (a++vs++b).toArray) w:=by
  have B:(⟨xs⟩:Array Operand)=xs.toArray:=rfl
  rw[B]
  cases j with
  |func q=>
   simp only[callee,Option.some.injEq,Prod.mk.injEq]at h
   obtain⟨rfl,rfl,rfl,rfl⟩:=h
   simpa using R0 k hx hs U
  |tmp t=>
   simp only[callee]at h
   split at h
   ·rename_i q a' i s h1
    simp only[Option.some.injEq,Prod.mk.injEq]at h
    obtain⟨rfl,rfl,rfl,rfl⟩:=h
    exact aZ (fs:=a') (cs:=i) k (A8 h1 (hE:=hE1)) hx hs U
   ·cases h
  |const v=>
   simp only[callee]at h
   split at h
   ·rename_i q a' i s h1
    simp only[Option.some.injEq,Prod.mk.injEq]at h
    obtain⟨rfl,rfl,rfl,rfl⟩:=h
    exact aZ (fs:=a') (cs:=i) k (A8 h1 (hE:=hE1)) hx hs U
   ·cases h
  |global g=>
   simp only[callee]at h
   split at h
   ·rename_i q a' i s h1
    simp only[Option.some.injEq,Prod.mk.injEq]at h
    obtain⟨rfl,rfl,rfl,rfl⟩:=h
    exact aZ (fs:=a') (cs:=i) k (A8 h1 (hE:=hE1)) hx hs U
   ·cases h
 simp only[Oper.wp,key,Oper.upon_enter]
 refine y.mono λ e w' he=>?_
 cases e with
 |returned v=>exact A _ _ (z v w' he ac hs)
 |panicked l=>exact hp l w' he ac hs
 |outgrown=>exact absurd he (ho w')
theorem RH{N:Nat}{L:XE}{a:Act}(hs:B1 a N L.d){d:Nat}(hd:Nat.blt d N=true)(v:XV):B1 (a.put (some d) v.d) N (XE.d ((d,.t,v)::L)):=hs.put hd true v.d
theorem EW{γ:Type}(e:γ->XV)(q:List Nat){u:γ->Value}{pu:γ->Prop}{Fg:γ->List (Nat×Kn)}{j:Operand}{f:FuncId}{l n:List Value}{E1 E2:List Ck}{xs:List Operand}{tys:Array TypeId}{vs:List XV}
  (h:run c.T c.N k m s=⟨k',.ops all (⟨some d,.call ⟨.value j,⟨xs⟩,tys⟩,ty,ps,af,none⟩::rest),s',O,E⟩) (y:callee s'.L j=some (f,l,n,E1)) (z:CT c.P f) (hx:JQ s'.L .t xs=some (vs,E2))
  (A: ∀w M,D1 c s'.F s'.H w M->Calls c.P f (l++vs.map XV.d++n).toArray w (N5 w M u pu Fg))
  (C: ∀g,pu g->XG c B k' (.ops all rest) ⟨PQ q (Fg g)++s'.F,s'.H,(d,.t,e g)::s'.L⟩) (hE:AA E:=by exact Ad) (hO:O:=by exact Af) (hd:Nat.blt d c.N=true:=by exact rfl) (hE1:AA (E1++E2):=by exact Ad) (hu: ∀g,(e g).d=u g:=by intros;rfl):XG c B k m s:=by
 refine DF h (hE:=hE) (hO:=hO) λ w M b=>cV z y hE1.app.1 (LZ hx hE1.app.2) (A w M b) ?_ (λ D w' i=>?_) (λ w' i=>?_)
 ·rintro v w' ⟨g,M',he,hp,hg,hF⟩ ac hs
  cases he
  have:=RH hs hd (e g)
  rw[hu]at this
  exact c.W.back (C g hp _ w' ⟨this,M',b.st.grow hg,(UJ hF).app (b.f.mono (hg.le b.st.sat)),b.le.trans (hg.le b.st.sat)⟩)
 ·obtain⟨g,M',he,_⟩:=i;cases he
 ·obtain⟨g,M',he,_⟩:=i;cases he
theorem AS{γ:Type}(ids:List Nat)(i:γ->XV)(G:List Nat)(l:γ->List (Nat×HX)){u:γ->Value}{pu:γ->Prop}{Fg:γ->List (Nat×Kn)}{Hg:γ->List HO}{z:Operand}{f:FuncId}{C D:List Value}{E1 E2:List Ck}{xs:List Operand}{tys:Array TypeId}{vs:List XV}{A R:List (Nat×HX)}{b:Option Tmp}
  (h:run c.T c.N k m s=⟨k',.ops all (⟨b,.call ⟨.value z,⟨xs⟩,tys⟩,ty,ps,af,none⟩::rest),s',O,E⟩) (J:callee s'.L z=some (f,C,D,E1)) (K:CT c.P f) (hx:JQ s'.L .t xs=some (vs,E2))
  (Q:GI ids s'.H=some (A,R)) (S: ∀w M,St c.w0 c.M0 w M (HD A++(HD R++c.Hr))->BH M s'.F->Calls c.P f (C++vs.map XV.d++D).toArray w (BJ c.w0 c.M0 M (HD R++c.Hr) u pu Fg Hg))
  (V: ∀g,pu g->XG c B k' (.ops all rest) ⟨PQ G (Fg g)++s'.F,l g++R,cU b (i g) s'.L⟩) (hE:AA E:=by exact Ad) (hO:O:=by exact Af) (hd:lE b c.N=true:=by exact rfl) (hE1:AA (E1++E2):=by exact Ad) (hu: ∀g,(i g).d=u g:=by intros;rfl) (hH: ∀g,HD (l g)=Hg g:=by intros;rfl):XG c B k m s:=by
 refine DF h (hE:=hE) (hO:=hO) λ w M j=>?_
 have n:St c.w0 c.M0 w M (HD A++(HD R++c.Hr)):=j.st.perm (by rw[<-List.append_assoc];exact(PS Q).append_right _)
 refine cV K J hE1.app.1 (LZ hx hE1.app.2) (S w M n j.f) ?_ (λ X w' q=>?_) (λ w' q=>?_)
 ·rintro v w' ⟨g,M',he,hp,hle,hS,hF⟩ ac hs
  cases he
  have y:B1 (ac.put b (u g)) c.N (XE.d (cU b (i g) s'.L)):=by
   cases b with
   |some d=>have:=RH hs hd (i g);rw[hu]at this;exact this
   |none=>exact hs
  refine c.W.back (V g hp _ w' ⟨y,M',?_,(UJ hF).app (j.f.mono hle),j.le.trans hle⟩)
  have e:HD (l g++R)++c.Hr=Hg g++(HD R++c.Hr):=by rw[<-hH];unfold HD;rw[List.map_append,List.append_assoc]
  rw[e];exact hS
 ·obtain⟨g,M',he,_⟩:=q;cases he
 ·obtain⟨g,M',he,_⟩:=q;cases he
theorem M6{b:Bool}(e:b=true){E:List Ck}(h:E=[.b true b]):AA E:=by
 subst h;intro c i;rw[List.mem_singleton.1 i];exact λ _=>e
theorem EX(j:XV){op:Op}{gd:Option (Nat×Bool)}{b:Bool}(h:run c.T c.N k m s=⟨k',.ops all (⟨some d,op,ty,ps,af,gd⟩::rest),s',O,E⟩)(hg:(HA all s'.L gd,Nat.blt d c.N)=(some (.g b),true))
  (h1:b=true->XG c B k' (.ops all (⟨some d,op,ty,ps,af,none⟩::rest)) s') (n:b=false->XG c B k' (.ops all rest) ⟨s'.F,s'.H,(d,.g b,j)::s'.L⟩) (hE:AA E:=by exact Ad) (hO:O:=by exact Af):XG c B k m s:=by
 simp only[Prod.mk.injEq]at hg
 refine CH h hE hO λ a w ⟨hs,M,l⟩=>?_
 have e:=DY.wanted (o:=⟨some d,op,ty,ps,af,gd⟩) (LX hg.1) hs
 have i:(Gd.g b).d=b:=rfl
 rw[i]at e
 cases b with
 |true=>exact c.W.want e (h1 U a w ⟨hs,M,l⟩)
 |false=>
  refine c.W.one ?_
  unfold wpList
  rw[e]
  refine c.W.back (n U _ w ⟨?_,M,l⟩)
  exact hs.put hg.2 false j.d
def OA(
     T:TT) (H:List (Nat×HX)) (L:XE):List ResultVar->Option (List XV×List Ck)
 |[]=>some ([],[])
 |r::rs=>match OA T H L rs with
  |some (vs,E)=>match r with
   | .tmp t=>match BQ L t with
    |some (.t,v)=>some (v::vs,E)
    |_=>none
   | .cell t ty=>match BQ L t with
    |some (.t,.bx k b o)=>match WO T [] H ty (.bx k b o)with
     |some (v,[],E')=>some (v::vs,E'++E)
     |_=>none
    |_=>none
  |none=>none
def PT:List XV->Value
 |[v]=>v.d
 |vs=>.tuple (vs.map XV.d).toArray
theorem cW{P:Program}{T:TT}(hT:DR P T){H:List (Nat×HX)}{Hr:List HO}{w0 w:World}{M0 M:Mem}{L:XE}{a:Act}{N:Nat}(hS:St w0 M0 w M (HD H++Hr))(hs:B1 a N L.d): ∀ {rs:List ResultVar} {vs:List XV} {E:List Ck},OA T H L rs=some (vs,E)->AA E->(rs.mapM (K7 a.tmps)).run P w= .ok (vs.map XV.d) w
 |[],vs,E,h,_=>by simp only[OA,Option.some.injEq,Prod.mk.injEq]at h;obtain⟨rfl,rfl⟩:=h;rfl
 |r::rs,vs,E,h,hE=>by
  unfold OA at h
  split at h
  ·rename_i i n h1
   have fin: ∀(v:XV),(K7 a.tmps r).run P w= .ok v.d w->AA n->((r::rs).mapM (K7 a.tmps)).run P w= .ok ((v::i).map XV.d) w:=λ v q j=>by
    simp only[List.mapM_cons,Sem.run_bind,q,Result.andThen_ok,cW hT hS hs h1 j,Sem.run_pure,List.map_cons]
   split at h
   ·split at h
    ·rename_i t v hl
     simp only[Option.some.injEq,Prod.mk.injEq]at h;obtain⟨rfl,rfl⟩:=h
     exact fin _ (by simp only[K7,hs.get (I9 hl)];rfl) hE
    ·cases h
   ·split at h
    ·rename_i t ty A k b o hl
     split at h
     ·rename_i v E2 s
      simp only[Option.some.injEq,Prod.mk.injEq]at h;obtain⟨rfl,rfl⟩:=h
      refine fin _ ?_ hE.app.2
      have hp:PV P (· =w) L.d true ⟨some 0,.load ty (.tmp t),0,"",#[],none⟩ v.d:=kE (W:=.t) (gd:=none) hT (F:=[]) (Hr:=Hr) A4 hS H8 s hE.app.1 (.t (I9 hl)) (λ _=>trivial)
      have e:=hp a N hs U w U
      have y:=hs.get (I9 hl)
      have l:a.tmps.getD t undef= .pointer (some ⟨b,o,none⟩):=y
      have z:a.eval (.tmp t)= .pointer (some ⟨b,o,none⟩):=l
      simp only[execOp,z,Sem.run_bind,Instr.loadAt,Instr.sureAddr,Sem.run_pure,Result.andThen_ok]at e
      simp only[K7,l,asAddr,Sem.run_bind,Sem.run_pure,Result.andThen_ok]
      cases hl2:(loadVar ty ⟨b,o,none⟩).run P w with
      |ok x w'=>rw[hl2]at e;simp only[Result.andThen_ok,Result.ok.injEq,Next.value.injEq]at e;obtain⟨rfl,rfl⟩:=e;rfl
      |halt x w'=>rw[hl2]at e;cases e
     ·cases h
    ·cases h
  ·cases h
theorem A2{fn:Func}{R:Ending->World->Prop}{rs:List ResultVar}{vs:List XV}{E2:List Ck}(e:Ends c.P fn R B)(i:fn.results=⟨rs⟩)(h:run c.T c.N k m s=⟨[],.ret,s',O,E⟩)(hl:OA c.T s'.H s'.L rs=some (vs,E2))(j: ∀w M,D1 c s'.F s'.H w M->R (.returned (PT vs)) w)(hE:AA E:=by exact Ad)(hO:O:=by exact Af)(hE2:AA E2:=by exact Ad):XG c B k m s:=
 CH h hE hO λ a w ⟨h1,M,b⟩=>e.all _ _ _ (bodyPost_ret (v:=PT vs) (by
  rw[jH,i]
  have l:=cW c.hT b.st h1 hl hE2
  have n:((⟨rs⟩:Array ResultVar).mapM (K7 a.tmps)).run c.P w= .ok (vs.map XV.d).toArray w:=by
   rw[Array.mapM_eq_mapM_toList]
   refine(Sem.run_bind' c.P _ _ w).trans ?_
   rw[l];rfl
  rw[Sem.run_bind,n]
  simp only[Result.andThen_ok,Sem.run_pure]
  congr 1
  match vs with
  |[]=>rfl
  |[v]=>rfl
  |_::_::_=>simp[PT]) h1.DZ (j w M b))
theorem UK{fn:Func}{R:Ending->World->Prop}(b:Ends c.P fn R B)(e:fn.results= #[])(h:run c.T c.N k m s=⟨[],.next,s',O,E⟩)(i: ∀w M,D1 c s'.F s'.H w M->R (.returned (.tuple #[])) w)(hE:AA E:=by exact Ad)(hO:O:=by exact Af):XG c B k m s:=
 CH h hE hO λ a w ⟨h1,M,j⟩=>b.e0 e (i w M j) a h1
def XQ(c:Cx)(B:Exit->Act->World->Prop)(k:List Fr)(all:Array Oper)(l:List Oper)(s:XS):Prop:= ∀w M,D1 c s.F s.H w M->RQ c.P all (λ w'=>Ext w w') c.N (λ a=> ∀w',St c.w0 c.M0 w' M (HD s.H++c.Hr)->post c B k .normal a w') l s.L.d
theorem G4{id:Nat}{l:List Oper}(h:run c.T c.N k m s=⟨k',.code (.region id ⟨l⟩ true),s',O,E⟩)(hm:c.P.follows .mixedOrders=true)(i:Region.lexB .any l.toArray=true)(j:XQ c B k' l.toArray l s')(b:c.W.plain:=by exact True.intro)(hE:AA E:=by exact AE rfl)(hO:O:=by exact Af):XG c B k m s:=
 CH h hE hO λ a w ⟨h1,M,e⟩=>c.W.draw b (CW.aW e.st hm i (j w M e) a h1)
structure QR:Type where
 l:List Oper
 L:XE
 O:Prop
 E:List Ck
def UL(W:Gd):List Prop->Prop->(Prop->QR)->QR
 |[],O,K=>K O
 |p::ps,O,K=>match W with
  | .t=>UL W ps (p/\O) K
  | .g b=>UL W ps ((b=false\/p)/\O) K
theorem X3{W:Gd}{K:Prop->QR}: ∀ {ps:List Prop} {O:Prop},∃i,UL W ps O K=K i/\(i->(W.d=true->IL ps)/\O)
 |[],O=>⟨O,rfl,λ h=>⟨λ _=>trivial,h⟩⟩
 |p::ps,O=>by
  unfold UL
  cases W with
  |t=>
   obtain⟨i,h1,e⟩:=X3 (W:=.t) (K:=K) (ps:=ps) (O:=p/\O)
   exact⟨i,h1,λ h=>⟨λ j=>⟨(e h).2.1,(e h).1 j⟩,(e h).2.2⟩⟩
  |g b=>
   obtain⟨i,h1,e⟩:=X3 (W:=.g b) (K:=K) (ps:=ps) (O:=(b=false\/p)/\O)
   exact⟨i,h1,λ h=>⟨λ j=>⟨(e h).2.1.resolve_left (by rw[show b=true from j];decide),(e h).1 j⟩,(e h).2.2⟩⟩
def JG(
     T:TT) (N:Nat) (F:List (Nat×Kn)) (H:List (Nat×HX)) (all:Array Oper):List Oper->XE->Prop->List Ck->QR
 |[],L,O,E=>⟨[],L,O,E⟩
 |⟨dst,op,ty,ps,af,gd⟩::rest,L,O,E=>match dst with
  |some d=>match HA all L gd with
   |some W=>match R7 T F H L W op with
    |some (v,p,E')=>match Nat.blt d N with
     |true=>UL W p O λ O'=>JG T N F H all rest ((d,W,v)::L) O' (E'++E)
     |false=>⟨⟨dst,op,ty,ps,af,gd⟩::rest,L,O,E⟩
    |none=>⟨⟨dst,op,ty,ps,af,gd⟩::rest,L,O,E⟩
   |none=>⟨⟨dst,op,ty,ps,af,gd⟩::rest,L,O,E⟩
  |none=>⟨⟨dst,op,ty,ps,af,gd⟩::rest,L,O,E⟩
theorem X4{F:List (Nat×Kn)}{H:List (Nat×HX)}: ∀ {l:List Oper} {L:XE} {O:Prop} {E:List Ck},let t:=JG c.T c.N F H all l L O E;t.O->AA t.E->XQ c B k all t.l ⟨F,H,t.L⟩->O/\AA E/\XQ c B k all l ⟨F,H,L⟩
 |[],L,O,E=>λ h1 b e=>⟨h1,b,e⟩
 |⟨dst,op,ty,ps,af,gd⟩::rest,L,O,E=>by
  intro t h1 b e
  have i:t=JG c.T c.N F H all (⟨dst,op,ty,ps,af,gd⟩::rest) L O E:=rfl
  unfold JG at i
  split at i
  ·rename_i d
   split at i
   ·rename_i W z
    split at i
    ·rename_i v p A C
     split at i
     ·rename_i hd
      obtain⟨s,hi,j⟩:=X3 (W:=W) (K:=λ s=>JG c.T c.N F H all rest ((d,W,v)::L) s (A++E)) (ps:=p) (O:=O)
      rw[i,hi]at h1 b e
      obtain⟨r1,y,D⟩:=X4 h1 b e
      obtain⟨hp,n⟩:=j r1
      refine⟨n,(AA.app y).2,λ w M q=>?_⟩
      exact RQ.v (LX z) (U8 c.hT q.f q.st (λ _ h=>h) C (AA.app y).1 hp) hd (D w M q)
     ·rw[i]at h1 b e;exact⟨h1,b,e⟩
    ·rw[i]at h1 b e;exact⟨h1,b,e⟩
   ·rw[i]at h1 b e;exact⟨h1,b,e⟩
  ·rw[i]at h1 b e;exact⟨h1,b,e⟩
theorem G5{l:List Oper}{F:List (Nat×Kn)}{H:List (Nat×HX)}{L L':XE}(h:JG c.T c.N F H all l L ((0:Int)=0) []=⟨[],L',O,E⟩)(e:XG c B k .next ⟨F,H,L'⟩)(hE:AA E:=by exact Ad)(hO:O:=by exact Af):XQ c B k all l ⟨F,H,L⟩:=by
 have:=X4 (c:=c) (B:=B) (k:=k) (all:=all) (F:=F) (H:=H) (l:=l) (L:=L) (O:=(0:Int)=0) (E:=[])
 rw[h]at this
 exact(this hO hE λ w M b=>RQ.nil λ a hs w' hS=>e a w' ⟨hs,M,hS,b.f,b.le⟩).2.2
theorem HB{l:List Oper}{F:List (Nat×Kn)}{H:List (Nat×HX)}{L L':XE}{f:FuncId}{xs:List Operand}{tys:Array TypeId}{gd:Option (Nat×Bool)}{W:Gd}{vs:List XV}{E2:List Ck}{u:Value}{v:XV}
  (h:JG c.T c.N F H all l L ((0:Int)=0) []=⟨⟨some d,.call ⟨.value (.func f),⟨xs⟩,tys⟩,ty,ps,af,gd⟩::rest,L',O,E⟩) (j:CT c.P f) (hg:(HA all L' gd,Nat.blt d c.N)=(some W,true)) (hx:JQ L' W xs=some (vs,E2))
  (n:W.d=true-> ∀w M,D1 c F H w M->Calls c.P f (vs.map XV.d).toArray w (λ e w'=>e= .returned u/\Ext w w')) (q:vx u=some v) (s:XQ c B k all rest ⟨F,H,(d,W,v)::L'⟩) (hE:AA E:=by exact Ad) (hO:O:=by exact Af) (hE2:AA E2:=by exact Ad):XQ c B k all l ⟨F,H,L⟩:=by
 simp only[Prod.mk.injEq]at hg
 have:=X4 (c:=c) (B:=B) (k:=k) (all:=all) (F:=F) (H:=H) (l:=l) (L:=L) (O:=(0:Int)=0) (E:=[])
 rw[h]at this
 refine(this hO hE λ w M i=>?_).2.2
 have y:=s w M i
 have z:XE.d ((d,W,v)::L')=(d,W.d,u)::L'.d:=by rw[<-cK q];rfl
 have A:RQ c.P all (λ w'=>Ext w w') c.N (λ a=> ∀w',St c.w0 c.M0 w' M (HD H++c.Hr)->post c B k .normal a w') rest ((d,W.d,u)::L'.d):=z▸y
 exact RQ.call (LX hg.1) j (LZ hx hE2) (λ C w1 b=>(n C w1 M ⟨i.st.ext b,i.f,i.le⟩).mono λ e w' ⟨h1,D⟩=>⟨h1,b.trans D⟩) hg.2 A
end
end Go.Eng
