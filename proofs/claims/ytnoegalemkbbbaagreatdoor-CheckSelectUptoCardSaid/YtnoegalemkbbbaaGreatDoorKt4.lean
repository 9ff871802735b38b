/- Lemmas for the card. -/
import Derived.Test.YtnoegalemkbbbaaGreatDoorKt3
set_option linter.unusedVariables false
set_option linter.unusedSimpArgs false
set_option maxRecDepth 100000
namespace Go.Eng
open Go.RowKit
abbrev I(n:Int):XV:=.v (.int .i64 n)
abbrev Z(k:Nat)(v:XV):Nat×Gd×XV:=(k,.t,v)
def N8:Nat->List XV->XE
 |_,[]=>[]
 |k,v::vs=>(k,.t,v)::N8 (k+1) vs
theorem RW: ∀(vs:List XV) (k:Nat),(N8 k vs).d=N4 k (vs.map XV.d)
 |[],_=>rfl
 |v::vs,k=>by show(k,true,v.d)::XE.d (N8 (k+1) vs)=_;rw[RW vs];rfl
def GH:List Nat->XE->XE
 |[],_=>[]
 |k::ks,L=>match BM L k with
  |some x=>(k,x)::GH ks L
  |none=>GH ks L
theorem WR: ∀(b:List Nat) (L:XE) (t:Nat) (g:Gd) (v:XV),BM (GH b L) t=some (g,v)->BM L t=some (g,v)
 |[],_,_,_,_,h=>by simp[GH,BM]at h
 |k::b,L,t,g,v,h=>by
  unfold GH at h
  split at h
  ·rename_i x hx
   obtain⟨i,v'⟩:=x
   unfold BM at h
   split at h
   ·rename_i e
    cases h;have:=Nat.eq_of_beq_eq_true e;subst this;exact hx
   ·exact WR b L t g v h
  ·exact WR b L t g v h
theorem cN{a:Act}{N:Nat}{L L':XE}(b:AW a N L.d)(h: ∀t g v,BM L' t=some (g,v)->BM L t=some (g,v)):AW a N L'.d:=
 ⟨b.size,b.E4,λ t g v e=>by
  obtain⟨i,v',h1,rfl,rfl⟩:=PS e
  exact b.val t _ _ (I8 (h t i v' h1))⟩
def JD:List (Nat×Kn)->List (Nat×Kn)->List (Nat×Kn)
 |[],_=>[]
 |(k,x)::F',F=>match KI F k with
  |some y=>(k,y)::JD F' F
  |none=>JD F' F
theorem cO{M:Mem}{F:List (Nat×Kn)}(hF:BH M F): ∀b,BH M (JD b F)
 |[]=>λ x hx=>by cases hx
 |(k,x)::b=>by
  unfold JD
  split
  ·rename_i y h
   intro z e
   rcases List.mem_cons.1 e with rfl|e
   ·exact hF.get h
   ·exact cO hF b z e
  ·exact cO hF b
def MA:List (Nat×HX)->Nat->Option (HX×List (Nat×HX))
 |[],_=>none
 |(t,d)::H,k=>match Nat.beq t k with
  |true=>some (d,H)
  |false=>match MA H k with
   |some (x,H')=>some (x,(t,d)::H')
   |none=>none
theorem WS: ∀ {H:List (Nat×HX)} {k:Nat} {x:HX} {b:List (Nat×HX)},MA H k=some (x,b)->(x.d::HD b).Perm (HD H)
 |[],_,_,_,h=>by cases h
 |(t,d)::H,k,x,b,h=>by
  unfold MA at h
  split at h
  ·simp only[Option.some.injEq,Prod.mk.injEq]at h;obtain⟨rfl,rfl⟩:=h;exact .refl _
  ·split at h
   ·rename_i i j e
    simp only[Option.some.injEq,Prod.mk.injEq]at h;obtain⟨rfl,rfl⟩:=h
    exact(List.Perm.swap _ _ _).trans ((WS e).cons d.d)
   ·cases h
def JE:List (Nat×HX)->List (Nat×HX)->List (Nat×HX)
 |[],_=>[]
 |(k,_)::H',H=>match MA H k with
  |some (y,H2)=>(k,y)::JE H' H2
  |none=>JE H' H
theorem cP: ∀(b H:List (Nat×HX)),∃R,(HD (JE b H)++R).Perm (HD H)
 |[],H=>⟨HD H,.refl _⟩
 |(k,d)::b,H=>by
  unfold JE
  split
  ·rename_i y e h
   obtain⟨R,i⟩:=cP b e
   exact⟨R,(i.cons y.d).trans (WS h)⟩
  ·exact cP b H
def XS.sub (s' s:XS):Prop:=(∀t g v,BM s'.L t=some (g,v)->BM s.L t=some (g,v))/\(∀M,BH M s.F->BH M s'.F)/\ ∃R,(HD s'.H++R).Perm (HD s.H)
def keys:XE->List Nat
 |[]=>[]
 |(k,_)::L=>k::keys L
theorem XS.N9 {s s':XS}(h:(⟨JD s'.F s.F,JE s'.H s.H,GH (keys s'.L) s.L⟩:XS)=s'):s'.sub s:=by
 refine⟨λ t g v b=>?_,λ M hF=>?_,?_⟩
 ·rw[<-h]at b;exact WR _ _ _ _ _ b
 ·have:=cO hF s'.F;rw[<-h];exact this
 ·have:=cP s'.H s.H;rw[<-h];exact this
theorem HM.sub {c:Cx}{s s':XS}{a:Act}{w:World}(h:HM c s a w)(b:s'.sub s):HM c s' a w:=by
 obtain⟨h1,M,e,i,j⟩:=h
 obtain⟨k,l,R,n⟩:=b
 refine⟨cN h1 k,M,?_,l M i,j⟩
 have hp:((HD s'.H++c.Hr)++R).Perm (HD s.H++c.Hr):=by
  refine List.Perm.trans ?_ (n.append_right c.Hr)
  rw[List.append_assoc,List.append_assoc]
  exact(List.perm_append_comm).append_left _
 exact(e.perm hp).drop _ (List.sublist_append_left _ _)
section
variable {c:Cx} {B:Exit->Act->World->Prop} {k k':List Fr} {m:Md} {s s':XS} {O:Prop} {E:List Ck}
theorem A1{b:Bool}{x y:Code}(h:run c.T c.N k m s=⟨k',.br b x y,s',O,E⟩)(i:b=true->XG c B k' (.code x) s')(j:b=false->XG c B k' (.code y) s')(hE:A9 E:=by exact Ad)(hO:O:=by exact Af):XG c B k m s:=by
 refine C5 h hE hO λ a w e=>?_
 cases b
 ·exact j U a w e
 ·exact i U a w e
def LJ{σ:Type}(Sf:σ->XS)(I:σ->Prop)(μ:σ->Nat)(g:σ):XS->Prop:=λ t=> ∃g',t=Sf g'/\I g'/\μ g'<μ g
theorem AT{σ:Type}{x:Code}(b:σ->XS)(I:σ->Prop)(μ:σ->Nat)(g0:σ)(h:run c.T c.N k m s=⟨k',.code (.loop x),s',O,E⟩)
  (h0:(⟨JD (b g0).F s'.F,JE (b g0).H s'.H,GH (keys (b g0).L) s'.L⟩:XS)=b g0) (j:I g0)
  (l: ∀g,I g->XG c B (.loop (LJ b I μ g)::k') (.code x) (b g)) (hE:A9 E:=by exact Ad) (hO:O:=by exact Af):XG c B k m s:=by
 refine C5 h hE hO λ a w i=>c.W.loop (λ g a w=>I g/\HM c (b g) a w) μ g0 ⟨j,i.sub (XS.N9 h0)⟩ λ g a w ⟨hg,i⟩=>c.W.mono (l g hg a w i) λ e a w q=>?_
 cases e with
 |normal=>obtain⟨t,⟨n,rfl,h1,y⟩,z⟩:=q;exact⟨n,⟨h1,z⟩,y⟩
 |_=>exact q
theorem AR{σ:Type}{e:σ->XS}{I:σ->Prop}{μ:σ->Nat}{g:σ}(b:σ)(h:run c.T c.N k m s=⟨.loop (LJ e I μ g)::k',.next,s',O,E⟩)
  (h0:(⟨JD (e b).F s'.F,JE (e b).H s'.H,GH (keys (e b).L) s'.L⟩:XS)=e b) (i:I b) (hm:μ b<μ g) (hE:A9 E:=by exact Ad) (hO:O:=by exact Af):XG c B k m s:=
 C5 h hE hO λ a w j=>⟨_,⟨b,rfl,i,hm⟩,j.sub (XS.N9 h0)⟩
def PT:Value->XV
 | .agg ⟨cs⟩=>.ag (G9 cs)
 |x=>.v x
def WT:List Value->Option (List XV)
 |[]=>some []
 |x::l=>match WT l with
  |some r=>some (PT x::r)
  |none=>none
def vx:Value->Option XV
 | .tuple ⟨l⟩=>match WT l with
  |some r=>some (.tu r)
  |none=>none
 |x=>some (PT x)
theorem lS: ∀l:List Value,(G9 l).map XV.d0=l
 |[]=>rfl
 |x::l=>by simp[G9,lS l,XV.d0]
theorem lT(x:Value):(PT x).d1=x:=by
 unfold PT
 split
 ·rename_i cs;simp[XV.d1,lS]
 ·rfl
theorem AE0(x:Value):(PT x).d=(PT x).d1:=by
 unfold PT
 split<;>rfl
theorem lU: ∀ {l:List Value} {r:List XV},WT l=some r->r.map XV.d1=l
 |[],r,h=>by cases h;rfl
 |x::l,r,h=>by
  unfold WT at h
  split at h
  ·rename_i r' b;cases h;simp[lT,lU b]
  ·cases h
theorem cQ{x:Value}{v:XV}(h:vx x=some v):v.d=x:=by
 unfold vx at h
 split at h
 ·split at h
  ·rename_i r b;cases h;simp[XV.d,lU b]
  ·cases h
 ·cases h;rw[AE0,lT]
def JZ(L:XE)(W:Gd):List Operand->Option (List XV×List Ck)
 |[]=>some ([],[])
 |x::xs=>match B5 L W x with
  |some (v,E)=>match JZ L W xs with
   |some (vs,E')=>some (v::vs,E++E')
   |none=>none
  |none=>none
theorem MB{L:XE}{W:Gd}: ∀ {xs:List Operand} {vs:List XV} {E:List Ck},JZ L W xs=some (vs,E)->A9 E->EG L.d W.d xs (vs.map XV.d)
 |[],vs,E,h,_=>by simp only[JZ,Option.some.injEq,Prod.mk.injEq]at h;obtain⟨rfl,rfl⟩:=h;exact .nil
 |x::xs,vs,E,h,hE=>by
  unfold JZ at h
  split at h
  ·rename_i v E1 h1
   split at h
   ·rename_i b E2 e
    simp only[Option.some.injEq,Prod.mk.injEq]at h;obtain⟨rfl,rfl⟩:=h
    exact .cons (AF h1 (hE:=hE.app.1)) (MB e hE.app.2)
   ·cases h
  ·cases h
abbrev CT(P:Program)(f:FuncId):Prop:= ∀args w,(callFunc f args).run P w= .ok (.enter f args) w
theorem AB{d:Nat}{f:FuncId}{xs:List Operand}{tys:Array TypeId}{ty:TypeId}{ps:String}{af:Array Edge}{gd:Option (Nat×Bool)}{all:Array Oper}{rest:List Oper}{W:Gd}{vs:List XV}{E2:List Ck}{u:Value}{v:XV}
  (h:run c.T c.N k m s=⟨k',.ops all (⟨some d,.call ⟨.value (.func f),⟨xs⟩,tys⟩,ty,ps,af,gd⟩::rest),s',O,E⟩) (l:CT c.P f) (hg:(HN all s'.L gd,Nat.blt d c.N)=(some W,true)) (hx:JZ s'.L W xs=some (vs,E2))
  (n:W.d=true-> ∀w M,D5 c s'.F s'.H w M->Calls c.P f (vs.map XV.d).toArray w (λ e w'=>e= .returned u/\Ext w w')) (q:vx u=some v) (y:XG c B k' (.ops all rest) ⟨s'.F,s'.H,(d,W,v)::s'.L⟩) (hE:A9 E:=by exact Ad) (hO:O:=by exact Af) (hE2:A9 E2:=by exact Ad):XG c B k m s:=by
 refine C5 h hE hO λ a w z=>?_
 obtain⟨h1,M,i⟩:=z
 simp only[Prod.mk.injEq]at hg
 have e:(⟨xs⟩:Array Operand)=xs.toArray:=rfl
 rw[e]
 refine c.W.one (RL.aW i.st (M9 hg.1) l (MB hx hE2) (λ A=>n A w M i) hg.2 (λ w' j=>?_) a h1)
 intro a' b
 rw[<-cQ q]at b
 exact c.W.back (y a' w' ⟨b,M,j,i.f,i.le⟩)
end
class lV (P:Program)where
 T:TT
 ok:DP P T
inductive Tg where
 |s (k:Nat)
 |b (k:Nat)
 |g
def lW:List (Nat×Tg)->Nat->Option Tg
 |[],_=>none
 |(t,d)::T,k=>match Nat.beq t k with
  |true=>some d
  |false=>lW T k
def MC(tg:List (Nat×Tg))(L:Env):List Nat->XE->List Ck->Option (XE×List Ck)
 |[],X,E=>some (X,E)
 |k::ks,X,E=>match look L k with
  |none=>MC tg L ks X E
  |some (g,v)=>match lW tg k with
   |some (.s n)=>MC tg L ks ((k,.t,.sl n v)::X) (.b true g::E)
   |some (.b n)=>match v with
    | .pointer (some ⟨b,o,none⟩)=>MC tg L ks ((k,.t,.bx n b o)::X) (.b true g::E)
    |_=>none
   |some .g=>MC tg L ks ((k,.g g,.v v)::X) E
   |none=>MC tg L ks ((k,.t,.v v)::X) (.b true g::E)
def JF(X:XE)(L:Env):Prop:= ∀k g v,BM X k=some (g,v)->look L k=some (g.d,v.d)
theorem JF.cons {X:XE}{L:Env}(h:JF X L){k:Nat}{g:Gd}{v:XV}{i:Bool}{v':Value}(hl:look L k=some (i,v'))(hg:g.d=i)(j:v.d=v'):JF ((k,g,v)::X) L:=by
 intro t g2 v2 b
 unfold BM at b
 split at b
 ·rename_i e;cases b;have:=Nat.eq_of_beq_eq_true e;subst this;rw[hl,hg,j]
 ·exact h t g2 v2 b
theorem JF.put {X:XE}{L:Env}(h:JF X L){k:Nat}{g:Gd}{v:XV}:JF ((k,g,v)::X) ((k,g.d,v.d)::L):=by
 intro t g2 v2 b
 unfold BM at b
 split at b
 ·rename_i e;cases b;have:=Nat.eq_of_beq_eq_true e;subst this;rw[N3]
 ·rename_i e
  have:k≠t:=λ i=>by subst i;rw[Nat.beq_refl]at e;cases e
  rw[O1 this];exact h t g2 v2 b
theorem WU{q:List (Nat×Tg)}{L:Env}: ∀ {l:List Nat} {X e:XE} {E i:List Ck},MC q L l X E=some (e,i)->A9 i->(A9 E->JF X L)->JF e L/\A9 E
 |[],X,e,E,i,h,hE,j=>by simp only[MC,Option.some.injEq,Prod.mk.injEq]at h;obtain⟨rfl,rfl⟩:=h;exact⟨j hE,hE⟩
 |k::l,X,e,E,i,h,hE,j=>by
  unfold MC at h
  split at h
  ·exact WU h hE j
  ·rename_i g v hl
   have go: ∀(x:XV),x.d=v->MC q L l ((k,.t,x)::X) (.b true g::E)=some (e,i)->JF e L/\A9 E:=by
    intro x hx s
    have:=WU s hE λ hE2=>(j λ c n=>hE2 c (.tail _ n)).cons hl (by have w:g=true:=hE2 _ (.head _) U;rw[w];rfl) hx
    exact⟨this.1,λ c n=>this.2 c (.tail _ n)⟩
   split at h
   ·exact go _ U h
   ·split at h
    ·exact go _ U h
    ·cases h
   ·exact WU h hE λ hE2=>(j hE2).cons hl U U
   ·exact go _ U h
theorem JF.lX {X:XE}{L:Env}(h:JF X L){a:Act}{N:Nat}(b:AW a N L):AW a N X.d:=
 ⟨b.size,b.E4,λ t g v e=>by
  obtain⟨i,v',h1,rfl,rfl⟩:=PS e
  exact b.val t _ _ (h t i v' h1)⟩
def tm:Operand->List Nat->List Nat
 | .tmp k,r=>k::r
 |_,r=>r
def lY:Option Operand->List Nat->List Nat
 |some x,r=>tm x r
 |none,r=>r
def tmp:List (Nat×Operand)->List Nat->List Nat
 |[],r=>r
 |(_,x)::ps,r=>tm x (tmp ps r)
def AE1:Op->List Nat->List Nat
 | .move x,r=>tm x r
 | .assign x,r=>tm x r
 | .pick c x y,r=>tm c (tm x (tm y r))
 | .binOp _ _ x y _,r=>tm x (tm y r)
 | .unOp _ _ x,r=>tm x r
 | .convert _ _ x,r=>tm x r
 | .slice _ x lo hi _,r=>tm x (lY lo (lY hi r))
 | .fieldAddr _ x _,r=>tm x r
 | .field _ x _,r=>tm x r
 | .indexAddr _ x y,r=>tm x (tm y r)
 | .index _ x y,r=>tm x (tm y r)
 | .load _ x,r=>tm x r
 | .extract x _,r=>tm x r
 | .build _ ⟨ps⟩,r=>tmp ps r
 | .call ⟨_,⟨[x]⟩,_⟩,r=>tm x r
 |_,r=>r
def AE2(all:Array Oper)(gd:Option (Nat×Bool))(r:List Nat):List Nat:=
 match gd with
 |none=>r
 |some (j,_)=>match nth all.toList j with
  |some o=>match o.dst with
   |some d=>d::r
   |none=>r
  |none=>r
def lZ(all:Array Oper):Nat->List Oper->List Nat
 |n+1,o::l=>AE1 o.op (AE2 all o.guard (lZ all n l))
 |_,_=>[]
def WV:List XV->Option (List Value)
 |[]=>some []
 |x::l=>match WV l with
  |some r=>match x with
   | .v u=>some (u::r)
   | .sl _ u=>some (u::r)
   |_=>none
  |none=>none
theorem mA: ∀ {l:List XV} {r:List Value},WV l=some r->l.map XV.d0=r
 |[],r,h=>by cases h;rfl
 |x::l,r,h=>by
  unfold WV at h
  split at h
  ·rename_i r' b
   split at h<;>first|(cases h;simp[mA b,XV.d0])|cases h
  ·cases h
def dV:XV->Option Value
 | .v u=>some u
 | .sl _ u=>some u
 | .el _ x sz i j=>match j with
  |0=>some (.pointer (some ⟨sb x,so x+i.toNat*sz,none⟩))
  |j+1=>some (.pointer (some ⟨sb x,so x+i.toNat*sz+(j+1),none⟩))
 | .bx _ b o=>some (.pointer (some ⟨b,o,none⟩))
 | .ag cs=>match WV cs with
  |some r=>some (.agg ⟨r⟩)
  |none=>none
 | .tu _=>none
theorem AE3{x:XV}{v:Value}(h:dV x=some v):x.d=v:=by
 cases x with
 |v u=>cases h;rfl
 |sl k u=>cases h;rfl
 |el k u sz i j=>cases j<;>(cases h;rfl)
 |bx k b o=>cases h;rfl
 |ag cs=>
  simp only[dV]at h
  split at h
  ·rename_i r e;cases h;simp[XV.d,XV.d1,mA e]
  ·cases h
 |tu vs=>cases h
def dE(
    L:Env):Nat->XE->Option Env
 |0,_=>some L
 |n+1,(k,g,v)::X=>match dE L n X with
  |some L'=>match dV v with
   |some u=>match g with
    | .t=>some ((k,true,u)::L')
    | .g b=>some ((k,b,u)::L')
   |none=>none
  |none=>none
 |_,_=>none
theorem mB{L:Env}: ∀ {n:Nat} {X:XE} {L':Env},dE L n X=some L'->(XE.d (X.take n))++L=L'
 |0,X,L',h=>by simp only[dE,Option.some.injEq]at h;subst h;rfl
 |n+1,[],L',h=>by cases h
 |n+1,(k,g,v)::X,L',h=>by
  unfold dE at h
  split at h
  ·rename_i e b
   split at h
   ·rename_i u hu
    show(k,g.d,v.d)::(XE.d (X.take n)++L)=L'
    rw[mB b,AE3 hu]
    cases g<;>(cases h;rfl)
   ·cases h
  ·cases h
structure RR where
 l:List Oper
 L:Env
 O:Prop
 E:List Ck
def UG(W:Gd):List Prop->Prop->(Prop->Option RR)->Option RR
 |[],O,K=>K O
 |p::ps,O,K=>match W with
  | .t=>UG W ps (p/\O) K
  | .g b=>UG W ps ((b=false\/p)/\O) K
theorem cS{W:Gd}{K:Prop->Option RR}: ∀ {ps:List Prop} {O:Prop},∃i,UG W ps O K=K i/\(i->(W.d=true->IS ps)/\O)
 |[],O=>⟨O,rfl,λ h=>⟨λ _=>trivial,h⟩⟩
 |p::ps,O=>by
  unfold UG
  cases W with
  |t=>
   obtain⟨i,h1,e⟩:=cS (W:=.t) (K:=K) (ps:=ps) (O:=p/\O)
   exact⟨i,h1,λ h=>⟨λ j=>⟨(e h).2.1,(e h).1 j⟩,(e h).2.2⟩⟩
  |g b=>
   obtain⟨i,h1,e⟩:=cS (W:=.g b) (K:=K) (ps:=ps) (O:=(b=false\/p)/\O)
   exact⟨i,h1,λ h=>⟨λ j=>⟨(e h).2.1.resolve_left (by rw[show b=true from j];decide),(e h).1 j⟩,(e h).2.2⟩⟩
def cT(
     all:Array Oper) (L:XE) (gd:Option (Nat×Bool)):Option Gd:=
 match gd with
 |none=>some .t
 |some (
     j,want)=>match nth all.toList j with
  |some o=>match o.dst with
   |some d=>match BM L d with
    |some (g,v)=>match M8 v with
     |some b=>match want with
      |true=>match g with
       | .t=>some (.g b)
       | .g a=>some (.g (a&&b))
      |false=>match g with
       | .t=>some (.g (!b))
       | .g a=>some (.g (a&& !b))
     |none=>none
    |none=>none
   |none=>none
  |none=>none
theorem AE4{all:Array Oper}{L:XE}{gd:Option (Nat×Bool)}{W:Gd}(h:cT all L gd=some W):DZ all L.d gd W.d:=by
 unfold cT at h
 split at h
 ·cases h;exact .none
 ·rename_i j want
  split at h
  ·rename_i o ho
   split at h
   ·rename_i d hd
    split at h
    ·rename_i g v hl
     split at h
     ·rename_i b k
      have:=O8 k;subst this
      have e:=I8 hl
      have i:(all[j]?).bind (·.dst)=some d:=by
       rw[I9]at ho
       simp only[Array.getElem?_toList]at ho
       rw[ho];exact hd
      split at h
      ·split at h<;>cases h
       ·exact .pos i e
       ·exact .k6 i e
      ·split at h<;>cases h
       ·exact .neg i e
       ·exact .k7 i e
     ·cases h
    ·cases h
   ·cases h
  ·cases h
def runs(
     T:TT) (N:Nat) (F:List (Nat×Kn)) (H:List (Nat×HX)) (all:Array Oper) (L:Env):Nat->Nat->List Oper->XE->Prop->List Ck->Option RR
 |0,i,l,X,O,E=>match dE L i X with
  |some L'=>some ⟨l,L',O,E⟩
  |none=>none
 |n+1,i,l,X,O,E=>match l with
  |⟨some d,op,ty,ps,af,gd⟩::rest=>match cT all X gd with
   |some W=>match RN T F H X W op with
    |some (v,p,E')=>match Nat.blt d N with
     |true=>UG W p O λ O'=>runs T N F H all L n (i+1) rest ((d,W,v)::X) O' (E'++E)
     |false=>none
    |none=>none
   |none=>none
  |_=>none
theorem PV.rep {P:Program}{C:World->Prop}{X:XE}{L:Env}{W:Bool}{o:Oper}{v:Value}(h:PV P C X.d W o v)(b:JF X L):PV P C L W o v:=λ a N e i w hw=>h a N (b.lX e) i w hw
theorem mC{P:Program}{T:TT}(hT:DP P T){N:Nat}{F:List (Nat×Kn)}{H:List (Nat×HX)}{Hr:List HO}{w0 w:World}{M0 M:Mem}{C:World->Prop}{G:List Oper->Env->Prop}{all:Array Oper}{L:Env}(hF:BH M F)(hS:St w0 M0 w M (HD H++Hr))(hC: ∀w',C w'->Ext w w')
  (s: ∀ {d:Nat} {op:Op} {ty:TypeId} {ps:String} {af:Array Edge} {gd:Option (Nat×Bool)} {W:Bool} {v:Value} {rest:List Oper} {L:Env},DZ all L gd W->PV P C L W ⟨some d,op,ty,ps,af,gd⟩ v->Nat.blt d N=true->G rest ((d,W,v)::L)->G (⟨some d,op,ty,ps,af,gd⟩::rest) L):
  ∀ {n i:Nat} {l:List Oper} {X:XE} {O:Prop} {E:List Ck} {r:RR},runs T N F H all L n i l X O E=some r->r.O->A9 r.E->G r.l r.L->(A9 E->JF X ((XE.d (X.take i))++L))->G l ((XE.d (X.take i))++L)/\O/\A9 E
 |0,i,l,X,O,E,r,h,hO,hE,e,j=>by
  unfold runs at h
  split at h
  ·rename_i L' z
   cases h
   rw[mB z];exact⟨e,hO,hE⟩
  ·cases h
 |n+1,i,l,X,O,E,r,h,hO,hE,e,j=>by
  unfold runs at h
  split at h
  ·rename_i d op ty ps af gd rest
   split at h
   ·rename_i W A
    split at h
    ·rename_i v p B D
     split at h
     ·rename_i hd
      obtain⟨y,h1,J⟩:=cS (W:=W) (K:=λ y=>runs T N F H all L n (i+1) rest ((d,W,v)::X) y (B++E)) (ps:=p) (O:=O)
      rw[h1]at h
      obtain⟨r1,Q,k⟩:=mC hT hF hS hC s h hO hE e (λ hE2=>(j (A9.app hE2).2).put)
      obtain⟨hp,q⟩:=J Q
      have b:=j (A9.app k).2
      exact⟨s (λ a N R=>AE4 A a N (b.lX R)) ((U7 hT hF hS hC D (A9.app k).1 hp).rep b) hd r1,q,(A9.app k).2⟩
     ·cases h
    ·cases h
   ·cases h
  ·cases h
def hx:Nat->List HO->Option (List (Nat×HX)×List HO)
 |0,l=>some ([],l)
 |n+1,x::l=>match hx n l with
  |some (H,Hr)=>match x with
   | .box b cs t=>some ((n,.box b (G9 cs) t)::H,Hr)
   |y=>some ((n,.ho y)::H,Hr)
  |none=>none
 |_,_=>none
theorem mD: ∀l:List Value,(G9 l).map XV.d0=l
 |[]=>rfl
 |x::l=>by simp[G9,mD l,XV.d0]
theorem cU: ∀ {n:Nat} {l:List HO} {H:List (Nat×HX)} {Hr:List HO},hx n l=some (H,Hr)->HD H++Hr=l
 |0,l,H,Hr,h=>by simp only[hx,Option.some.injEq,Prod.mk.injEq]at h;obtain⟨rfl,rfl⟩:=h;rfl
 |n+1,[],H,Hr,h=>by cases h
 |n+1,x::l,H,Hr,h=>by
  unfold hx at h
  split at h
  ·rename_i e b i
   split at h
   ·simp only[Option.some.injEq,Prod.mk.injEq]at h;obtain⟨rfl,rfl⟩:=h
    show(HX.box _ _ _).d::(HD e++b)=_
    rw[cU i];simp[HX.d,mD]
   ·simp only[Option.some.injEq,Prod.mk.injEq]at h;obtain⟨rfl,rfl⟩:=h
    show(HX.ho _).d::(HD e++b)=_
    rw[cU i];rfl
  ·cases h
def PU(T:TT)(N:Nat)(F:List (Nat×Kn))(m:Nat)(Hs:List HO)(all:Array Oper)(tg:List (Nat×Tg))(n:Nat)(l:List Oper)(L:Env):Option RR:=
 match hx m Hs with
 |some (H,_)=>match MC tg L (lZ all n l) [] []with
  |some (X,E)=>runs T N F H all L n 0 l X ((0:Int)=0) E
  |none=>none
 |none=>none
theorem cV{P:Program}{T:TT}(hT:DP P T){N:Nat}{F:List (Nat×Kn)}{m n:Nat}{Hs:List HO}{w0 w:World}{M0 M:Mem}{C:World->Prop}{G:List Oper->Env->Prop}{all:Array Oper}{e:List (Nat×Tg)}{l l':List Oper}{L L':Env}{O:Prop}{E:List Ck}(hF:BH M F)(hS:St w0 M0 w M Hs)(hC: ∀w',C w'->Ext w w')
  (i: ∀ {d:Nat} {op:Op} {ty:TypeId} {ps:String} {af:Array Edge} {gd:Option (Nat×Bool)} {W:Bool} {v:Value} {rest:List Oper} {L:Env},DZ all L gd W->PV P C L W ⟨some d,op,ty,ps,af,gd⟩ v->Nat.blt d N=true->G rest ((d,W,v)::L)->G (⟨some d,op,ty,ps,af,gd⟩::rest) L)
  (h:PU T N F m Hs all e n l L=some ⟨l',L',O,E⟩) (hE:E.map Ck.diag=E) (hO:O) (j:G l' L'):G l L:=by
 unfold PU at h
 split at h
 ·rename_i H Hr hH
  split at h
  ·rename_i s E2 q
   have b:A9 []->JF [] L:=λ _ k g v h=>by cases h
   obtain⟨r1,y,z⟩:=mC (H:=H) (Hr:=Hr) hT hF (by rw[cU hH];exact hS) hC i h hO (AG hE) j (λ hE2=>(WU q hE2 b).1)
   exact r1
  ·cases h
 ·cases h
section
variable {P:Program} [tab:lV P] {N:Nat} {w0 w:World} {M0 M:Mem} {Q:Exit->Act->World->Prop} {all:Array Oper} {l l':List Oper} {L L':Env} {O:Prop} {E:List Ck} {F:List (Nat×Kn)} {Hs:List HO} {C:World->Prop} {post:Act->Prop}
theorem RL.x (n m:Nat)(b:List (Nat×Tg))(hF:BH M F)(hS:St w0 M0 w M Hs)(h:PU tab.T N F m Hs all b n l L=some ⟨l',L',O,E⟩)(hE:E.map Ck.diag=E)(hO:O)(e:RL P all Q N l' L' w):RL P all Q N l L w:=
 cV (G:=λ l L=>RL P all Q N l L w) tab.ok hF hS HJ (λ h1 i j k=>RL.v h1 i j k) h hE hO e
theorem BB(w:World):St w nM w nM []:=Aj ⟨λ _ _ _ h=>by cases h⟩
theorem RL.o (n:Nat)(b:List (Nat×Tg))(h:PU tab.T N [] 0 [] all b n l L=some ⟨l',L',O,E⟩)(hE:E.map Ck.diag=E)(hO:O)(e:RL P all Q N l' L' w):RL P all Q N l L w:=RL.x n 0 b A3 (BB w) h hE hO e
theorem RL.p (n:Nat)(b:List (Nat×Tg))(h:PU tab.T N [] 0 [] all b n l L=some ⟨l',L',(0:Int)=0,E⟩)(hE:E.map Ck.diag=E)(e:RL P all Q N l' L' w):RL P all Q N l L w:=RL.o n b h hE U e
theorem RQ.x (n m:Nat)(b:List (Nat×Tg))(hF:BH M F)(hS:St w0 M0 w M Hs)(h:PU tab.T N F m Hs all b n l L=some ⟨l',L',O,E⟩)(hE:E.map Ck.diag=E)(hO:O)(e:RQ P all (λ w'=>Ext w w') N post l' L'):RQ P all (λ w'=>Ext w w') N post l L:=
 cV (G:=λ l L=>RQ P all (λ w'=>Ext w w') N post l L) tab.ok hF hS (λ _ h=>h) (λ h1 i j k=>RQ.v h1 i j k) h hE hO e
theorem RS.x {w1:World}(n m:Nat)(b:List (Nat×Tg))(hF:BH M F)(hS:St w0 M0 w1 M Hs)(h:PU tab.T N F m Hs all b n l L=some ⟨l',L',O,E⟩)(hE:E.map Ck.diag=E)(hO:O)(e:RS P all w1 N post l' L'):RS P all w1 N post l L:=
 cV (G:=λ l L=>RS P all w1 N post l L) tab.ok hF hS HJ (λ h1 i j k=>RS.v h1 i j k) h hE hO e
end
theorem AE{P:Program}{N:Nat}{w0 w:World}{M0 M:Mem}{Hr:List HO}{T:TT}(hT:DP P T){f:FuncId}{fn:Func}{x:Code}{R:Ending->World->Prop}(e:P.funcs[f]? =some fn)(i:fn.body=some x)(j:fn.ntmps=N)
  (F:List (Nat×Kn)) (H:List (Nat×HX)) (vs:List XV) (hl:Nat.ble vs.length N=true) (hS:St w0 M0 w M (HD H++Hr)) (hF:BH M F)
  (h: ∀B,Ends P fn R B->XG ⟨P,N,w0,M0,M,Hr,T,hT,.wide P⟩ B [] (.code x) ⟨F,H,N8 0 vs⟩) {av:List Value} (k:vs.map XV.d=av):Calls P f av.toArray w R:=by
 subst k
 refine CW.O6 e i j (by rw[List.length_map];exact Nat.le_of_ble_eq_true hl) λ Q l a b=>?_
 have:=h Q l a w ⟨by rw[<-RW]at b;exact b,M,hS,hF,Mem.le.refl _⟩
 exact this
theorem AE5{α:Type}(f:α->List Value)(sz:Nat)(h: ∀x,(f x).length=sz)(l:List α)(a b j:Nat)(i:a<=b)(k:b<=l.length)(n:j<(b-a)*sz):
  (l.flatMap f)[a*sz+j]? =(((l.drop a).take (b-a)).flatMap f)[j]?:=by
 have e:l=l.take a++((l.drop a).take (b-a)++(l.drop a).drop (b-a)):=by rw[List.take_append_drop,List.take_append_drop]
 have e2:l.flatMap f=(l.take a).flatMap f++(((l.drop a).take (b-a)).flatMap f++((l.drop a).drop (b-a)).flatMap f):=by
  conv=>lhs;rw[e]
  rw[List.flatMap_append,List.flatMap_append]
 have h1:((l.take a).flatMap f).length=a*sz:=by rw[BR f sz h,List.length_take,Nat.min_eq_left Aa]
 have q:(((l.drop a).take (b-a)).flatMap f).length=(b-a)*sz:=by rw[BR f sz h,List.length_take,List.length_drop,Nat.min_eq_left Aa]
 rw[e2,List.getElem?_append_right Aa,h1,show a*sz+j-a*sz=j from by omega,List.getElem?_append_left Aa]
theorem cW{α:Type}{f:α->List Value}{M:Mem}{sz:Nat}{v:Value}{l:List α}(h:Sl M sz l.length v (l.flatMap f))(i: ∀x,(f x).length=sz){a b:Int}(h0:0<=a)(h1:a<=b)(q:b<=len l):
  ∃p cap,v= .slice p l.length cap/\l.length<=cap/\Sl M sz (Eng.sub l a b).length (sliced p a.toNat b.toNat cap sz) ((Eng.sub l a b).flatMap f):=by
 obtain⟨p,cap,s,w,hm,hp⟩:=h.val
 refine⟨p,cap,s,w,?_⟩
 unfold len at q
 have hl:(Eng.sub l a b).length=b.toNat-a.toNat:=by unfold Eng.sub;rw[List.length_take,List.length_drop];omega
 refine⟨by rw[BR f sz i],_,_,by unfold sliced;rw[hl],by rw[hl];omega,Aa,λ y=>?_⟩
 rw[hl]at y
 obtain⟨z,o,k,e⟩:=hp Aa
 refine⟨z,o+a.toNat*sz,by rw[if_neg Aa,k,Option.map_some,F6],λ j n=>?_⟩
 rw[BR f sz i,hl]at n
 have hlen:a.toNat*sz+j<(l.flatMap f).length:=by
  rw[BR f sz i]
  have:=Nat.mul_le_mul_right sz (show a.toNat+(b.toNat-a.toNat)<=l.length by omega)
  rw[Nat.add_mul]at this;omega
 rw[Nat.add_assoc,e _ hlen]
 exact AE5 f sz i l a.toNat b.toNat j Aa Aa n
section sl
variable {P:Program} {α:Type} {f:α->List Value} {M:Mem} {sz:Nat} {v:Value} {l:List α} {t e:TypeId}
theorem MD(b:P.underlying t=some (.slice e)):P.elem t=e:=by unfold Program.elem;rw[b]
theorem AE6(h:Sl M sz l.length v (l.flatMap f))(q: ∀x,(f x).length=sz)(j:P.underlying t=some (.slice e))(s: ∀w,(sizeOf e).run P w= .ok sz w)(a b:Int)(y:0<=a/\a<=b/\b<=len l):
  ∃v',Sl M sz (Eng.sub l a b).length v' ((Eng.sub l a b).flatMap f)/\ ∀(k k':IntKind) w,(Instr.sliceAt t v (some (.int k a)) (some (.int k' b)) none).run P w= .ok v' w:=by
 obtain⟨h0,h1,n⟩:=y
 obtain⟨p,cap,z,A,hS⟩:=cW h q h0 h1 n
 have i:P.underlying t=some (.slice (P.elem t)):=by rw[MD j];exact j
 refine⟨_,hS,λ k k' w=>?_⟩
 rw[z,run_sliceAt_slice w t _ _ _ _ i,run_slice_lh w t p _ cap i k k' a b h0 h1 (by unfold len at n;omega),MD j,s]
 rfl
theorem AE7(h:Sl M sz l.length v (l.flatMap f))(n: ∀x,(f x).length=sz)(j:P.underlying t=some (.slice e))(q: ∀w,(sizeOf e).run P w= .ok sz w)(a b:Int)(s:0<=a/\a<=b/\b<=len l)(y:a=0:=by rfl):
  ∃v',Sl M sz (Eng.sub l a b).length v' ((Eng.sub l a b).flatMap f)/\ ∀(k':IntKind) w,(Instr.sliceAt t v none (some (.int k' b)) none).run P w= .ok v' w:=by
 subst y
 obtain⟨h0,h1,k⟩:=s
 obtain⟨p,cap,z,A,hS⟩:=cW h n h0 h1 k
 have i:P.underlying t=some (.slice (P.elem t)):=by rw[MD j];exact j
 refine⟨_,hS,λ k' w=>?_⟩
 rw[z,run_sliceAt_slice w t _ _ _ _ i,run_slice_h w t p _ cap i k' b h1 (by unfold len at k;omega),MD j,q]
 rfl
theorem AE8(h:Sl M sz l.length v (l.flatMap f))(n: ∀x,(f x).length=sz)(j:P.underlying t=some (.slice e))(q: ∀w,(sizeOf e).run P w= .ok sz w)(a b:Int)(s:0<=a/\a<=b/\b<=len l)(y:b=len l:=by rfl):
  ∃v',Sl M sz (Eng.sub l a b).length v' ((Eng.sub l a b).flatMap f)/\ ∀(k:IntKind) w,(Instr.sliceAt t v (some (.int k a)) none none).run P w= .ok v' w:=by
 subst y
 obtain⟨h0,h1,z⟩:=s
 obtain⟨p,cap,A,B,hS⟩:=cW h n h0 h1 z
 have i:P.underlying t=some (.slice (P.elem t)):=by rw[MD j];exact j
 refine⟨_,hS,λ k w=>?_⟩
 rw[A,run_sliceAt_slice w t _ _ _ _ i,run_slice_l w t p _ cap i k a h0 h1,MD j,q]
 rfl
variable {C:World->Prop} {L:Env} {W:Bool} {d:Option Tmp} {ty:TypeId} {ps:String} {af:Array Edge} {gd:Option (Nat×Bool)} {x y z:Operand} {v':Value} {k k':IntKind} {a b:Int}
theorem PV.AE9 (hx:AD L W x v)(i:AD L W y (.int k a))(j:AD L W z (.int k' b))(l: ∀(k k':IntKind) w,(Instr.sliceAt t v (some (.int k a)) (some (.int k' b)) none).run P w= .ok v' w):PV P C L W ⟨d,.slice t x (some y) (some z) none,ty,ps,af,gd⟩ v':=by
 intro ac N e h w _
 simp only[execOp,hx ac N e h,Option.map_some,Option.map_none,i ac N e h,j ac N e h]
 rw[Sem.run_bind,l];rfl
theorem PV.mE (hx:AD L W x v)(i:AD L W z (.int k' b))(j: ∀(k':IntKind) w,(Instr.sliceAt t v none (some (.int k' b)) none).run P w= .ok v' w):PV P C L W ⟨d,.slice t x none (some z) none,ty,ps,af,gd⟩ v':=by
 intro ac N e h w _
 simp only[execOp,hx ac N e h,Option.map_some,Option.map_none,i ac N e h]
 rw[Sem.run_bind,j];rfl
theorem PV.mF (hx:AD L W x v)(h:AD L W y (.int k a))(i: ∀(k:IntKind) w,(Instr.sliceAt t v (some (.int k a)) none none).run P w= .ok v' w):PV P C L W ⟨d,.slice t x (some y) none none,ty,ps,af,gd⟩ v':=by
 intro ac N b e w _
 simp only[execOp,hx ac N b e,Option.map_some,Option.map_none,h ac N b e]
 rw[Sem.run_bind,i];rfl
end sl
inductive PR (α:Type)where
 |ok (x:α) (j:Int)
 |er (e p:Int)
abbrev PW(T:TypeId)(e p:Int):PanicEntry:= { v:=.iface T (.agg #[i64 e,i64 p]),recovered:=false}
def mG{α:Type}(w0:World)(M0 M:Mem)(Rs:List HO)(T:TypeId)(F:α->Int->Value->Mem->World->Prop)(r:PR α):Ending->World->Prop:=λ e w'=>
 match r with
 | .ok x j=> ∃v M',e= .returned v/\F x j v M' w'/\M.le M'
 | .er ec p=> ∃M',e= .panicked [PW T ec p]/\St w0 M0 w' M' Rs/\M.le M'
section
variable {P:Program} {α:Type} {w0 w:World} {M0 M M':Mem} {Rs:List HO} {T:TypeId} {F:α->Int->Value->Mem->World->Prop} {r:PR α}
theorem mG.ok {x:α}{j:Int}{v:Value}(h:r= .ok x j)(b:F x j v M' w)(hle:M.le M'):mG w0 M0 M Rs T F r (.returned v) w:=by
 subst h;exact⟨v,M',rfl,b,hle⟩
theorem Ends.p {fn:Func}{R:Ending->World->Prop}{Q:Exit->Act->World->Prop}{N:Nat}{L:Env}{b:List PanicEntry}(E:Ends P fn R Q)(h:R (.panicked b) w): ∀a,AW a N L->Q (.panic b) a w:=λ a e=>E.all _ _ _ ⟨e.E4,h⟩
variable {ops:Array Oper} {Q:Exit->Act->World->Prop} {N:Nat} {rest:List Oper} {L:Env} {ty:TypeId} {ps:String} {af:Array Edge} {tys:Array TypeId}
theorem RL.panic {d:Option Tmp}{x:Operand}{t:TypeId}{v:Value}(hx:AD L true x (.iface t v))(h: ∀a,AW a N L->Q (.panic [{ v:=.iface t v,recovered:=false}]) a w):RL P ops Q N (⟨d,.panic x,ty,ps,af,none⟩::rest) L w:=by
 intro a b
 refine wpList_plain U λ K e=>?_
 have key:(execOp a.eval ⟨d,.panic x,ty,ps,af,none⟩).run P w= .halt (.panic (.iface t v)) w:=by
  simp only[execOp,hx a N b U];rw[Sem.run_bind,run_panic_iface];rfl
 simp only[Oper.wp,key,Oper.upon_panic]
 exact h a b
end
section
variable {c:Cx} {B:Exit->Act->World->Prop} {k k':List Fr} {m:Md} {s s':XS} {O:Prop} {E:List Ck} {all:Array Oper} {rest:List Oper} {d:Nat} {ty:TypeId} {ps:String} {af:Array Edge}
theorem ES(kk:Nat)(K:Kn)(h: ∀w M,D5 c s.F s.H w M->K.ok M)(e:XG c B k m ⟨(kk,K)::s.F,s.H,s.L⟩):XG c B k m s:=λ a w ⟨h1,M,b⟩=>e a w ⟨h1,M,b.st,AA (h w M b) b.f,b.le⟩
theorem ME(t kk:Nat){v:Value}{g:Gd}(hl:BM s.L t=some (g,.v v))(h:XG c B k m ⟨s.F,s.H,(t,g,.sl kk v)::s.L⟩):XG c B k m s:=λ a w ⟨h1,M,i⟩=>h a w ⟨⟨h1.size,h1.E4,λ e j v' l=>by
 have b:look ((t,g.d,v)::s.L.d) e=some (j,v'):=l
 by_cases he:t=e
 ·subst he;rw[N3]at b;cases b;exact h1.val _ _ _ (I8 hl)
 ·rw[O1 he]at b;exact h1.val _ _ _ b⟩,M,i⟩
theorem E7{o:Oper}(h:run c.T c.N k m s=⟨k',.ops all (o::rest),s',O,E⟩)(b: ∀w M,D5 c s'.F s'.H w M->RL c.P all (Exit.then (c.W.list all (post c B k') rest) (post c B k')) c.N [o] s'.L.d w)(hE:A9 E:=by exact Ad)(hO:O:=by exact Af):XG c B k m s:=
 C5 h hE hO λ a w ⟨h1,M,e⟩=>c.W.one (b w M e a h1)
theorem E8{F:List (Nat×Kn)}{H:List (Nat×HX)}{L:XE}{L':Env}{l:List Oper}{w:World}{M:Mem}(h:XG c B k (.ops all l) ⟨F,H,L⟩)(b:D5 c F H w M)(e:L.d=L'):RL c.P all (Exit.then (c.W.list all (post c B k) l) (post c B k)) c.N [] L' w:=
 λ a i=>c.W.back (h a w ⟨by rw[e];exact i,M,b⟩)
theorem AU{op:Op}{gd:Option (Nat×Bool)}{W:Gd}(v:XV)(h:run c.T c.N k m s=⟨k',.ops all (⟨some d,op,ty,ps,af,gd⟩::rest),s',O,E⟩)(hg:(HN all s'.L gd,Nat.blt d c.N)=(some W,true))
  (hp: ∀w M,D5 c s'.F s'.H w M->PV c.P (· =w) s'.L.d W.d ⟨some d,op,ty,ps,af,gd⟩ v.d) (e:XG c B k' (.ops all rest) ⟨s'.F,s'.H,(d,W,v)::s'.L⟩) (hE:A9 E:=by exact Ad) (hO:O:=by exact Af):XG c B k m s:=by
 simp only[Prod.mk.injEq]at hg
 exact E7 h (hE:=hE) (hO:=hO) λ w M b=>RL.v (M9 hg.1) (hp w M b) hg.2 (E8 e b U)
theorem AZ(kk:Nat){t:TypeId}{z:Value}{cs:List XV}(h:run c.T c.N k m s=⟨k',.ops all (⟨some d,.alloc t,ty,ps,af,none⟩::rest),s',O,E⟩)(i: ∀w,(zeroValue t).run c.P w= .ok z w)(hd:(Nat.blt d c.N,RI z.cells.toList)=(true,some cs))
  (j: ∀b,XG c B k' (.ops all rest) ⟨s'.F,(kk,.box b cs t)::s'.H,(d,.t,.bx kk b 0)::s'.L⟩) (hE:A9 E:=by exact Ad) (hO:O:=by exact Af):XG c B k m s:=by
 simp only[Prod.mk.injEq]at hd
 refine E7 h (hE:=hE) (hO:=hO) λ w M e=>RL.alloc e.st i hd.1 λ w' b hS=>E8 (j b) ⟨?_,e.f,e.le⟩ U
 show St _ _ _ _ (.box b (cs.map XV.d0) t::(HD s'.H++c.Hr))
 rw[WI _ _ hd.2];exact hS
theorem BO(kk:Nat){t:TypeId}{x:Operand}{v:XV}{cs:List XV}{E1 E2:List Ck}(h:run c.T c.N k m s=⟨k',.ops all (⟨some d,.box t x,ty,ps,af,none⟩::rest),s',O,E⟩)(hx:B5 s'.L .t x=some (v,E1))(hd:(Nat.blt d c.N,cellsOf v,UD s'.F s'.H cs)=(true,some cs,some E2))
  (n: ∀b,XG c B k' (.ops all rest) ⟨s'.F,(kk,.box b cs t)::s'.H,(d,.t,.bx kk b 0)::s'.L⟩) (hE:A9 E:=by exact Ad) (hO:O:=by exact Af) (hE1:A9 (E1++E2):=by exact Ad):XG c B k m s:=by
 simp only[Prod.mk.injEq]at hd
 refine E7 h (hE:=hE) (hO:=hO) λ w M j=>RL.box j.st (AF hx (hE:=hE1.app.1)) hd.1 λ w' b hS=>E8 (n b) ⟨?_,j.f,j.le⟩ U
 have l:=RU j.f j.st hd.2.2 hE1.app.2
 have i:v.d.cells.toList=cs.map XV.d0:=by
  rcases lR hd.2.1 with q|⟨u,rfl,rfl,y,z⟩
  ·exact q
  ·have e:v.d=v.d0:=by cases v<;>first|rfl|(exact absurd rfl (y _))|(exact absurd rfl (z _))
   rw[e,WM (l _ (by simp))];rfl
 show St _ _ _ _ (.box b (cs.map XV.d0) t::(HD s'.H++c.Hr))
 rw[<-i];exact hS
theorem cX{α:Type}[Inhabited α](kk t:Nat)(e:TypeId)(sz:Nat)(f:α->List Value)(n: ∀x,(f x).length=sz)(hl:BM s.L t=some (.t,.v (.slice none 0 0)))
  (q:XG c B k m ⟨(kk,kn (.slice none 0 0) sz ([]:List α) f)::s.F,(kk,.ho (.own e sz (.slice none 0 0) ([]:List α).length (([]:List α).flatMap f)))::s.H,(t,.t,.sl kk (.slice none 0 0))::s.L⟩):XG c B k m s:=by
 intro a w ⟨h1,M,h⟩
 refine q a w ⟨⟨h1.size,h1.E4,λ j g v l=>?_⟩,M,h.st.kJ e sz,AA ⟨?_,n,trivial⟩ h.f,h.le⟩
 ·have i:=I8 hl
  by_cases he:t=j
  ·subst he
   have b:look ((t,true,Value.slice none 0 0)::s.L.d) t=some (g,v):=l
   rw[N3]at b;cases b
   exact h1.val _ _ _ i
  ·have b:look ((t,true,Value.slice none 0 0)::s.L.d) j=some (g,v):=l
   rw[O1 he]at b
   exact h1.val _ _ _ b
 ·exact Sl.nil M sz
def RX(L:XE):List (Nat×Operand)->Option (List (Nat×XV)×List Ck)
 |[]=>some ([],[])
 |(i,x)::xs=>match B5 L .t x with
  |some (v,E)=>match RX L xs with
   |some (vs,E')=>some ((i,v)::vs,E++E')
   |none=>none
  |none=>none
theorem cY{L:XE}: ∀ {xs:List (Nat×Operand)} {vs:List (Nat×XV)} {E:List Ck},RX L xs=some (vs,E)->A9 E->GN L.d true xs (vs.map λ x=>(x.1,x.2.d))
 |[],vs,E,h,_=>by simp only[RX,Option.some.injEq,Prod.mk.injEq]at h;obtain⟨rfl,rfl⟩:=h;exact .nil
 |(i,x)::xs,vs,E,h,hE=>by
  unfold RX at h
  split at h
  ·rename_i v E1 h1
   split at h
   ·rename_i b E2 e
    simp only[Option.some.injEq,Prod.mk.injEq]at h;obtain⟨rfl,rfl⟩:=h
    exact .cons (AF h1 (hE:=hE.app.1)) (cY e hE.app.2)
   ·cases h
  ·cases h
theorem B9{α:Type}[Inhabited α](kk:Nat)(l:List α)(f:α->List Value)(sz:Nat)(e:TypeId){t:TypeId}{n:Nat}{xs:List (Nat×Operand)}{vs:List (Nat×XV)}{E1:List Ck}(q: ∀x,(f x).length=sz)(h:run c.T c.N k m s=⟨k',.ops all (⟨some d,.buildSlice t n ⟨xs⟩,ty,ps,af,none⟩::rest),s',O,E⟩)
  (hx:RX s'.L xs=some (vs,E1)) (y: ∀w,(Instr.buildSlice t n (vs.map λ x=>(x.1,x.2.d)).toArray).run c.P w= .ok (.slice (some ⟨w.heap.size,0,none⟩) n n) (w.alloc (.cells (l.flatMap f).toArray e))) (hd:(Nat.blt d c.N,Nat.beq l.length n,Nat.ble n 9223372036854775807)=(true,true,true))
  (z: ∀v,XG c B k' (.ops all rest) ⟨(kk,kn v sz l f)::s'.F,(kk,.ho (.own e sz v l.length (l.flatMap f)))::s'.H,(d,.t,.sl kk v)::s'.L⟩) (hE:A9 E:=by exact Ad) (hO:O:=by exact Af) (hE1:A9 E1:=by exact Ad):XG c B k m s:=by
 simp only[Prod.mk.injEq]at hd
 have b:=Nat.eq_of_beq_eq_true hd.2.1
 subst b
 refine E7 h (hE:=hE) (hO:=hO) λ w M j=>?_
 have A:(⟨xs⟩:Array (Nat×Operand))=xs.toArray:=rfl
 rw[A]
 refine RL.buildSlice (cs:=l.flatMap f) j.st (cY hx hE1) (BR f sz q l) hd.2.2 y hd.1 λ v w' M' hS hle=>E8 (z v) ⟨hS,AA ⟨hS.sl (i:=0) U,q,trivial⟩ λ x hx=>(j.f x hx).mono hle,j.le.trans hle⟩ U
theorem EC(by':Nat){α:Type}[inh:Inhabited α]{l b:List α}{f:α->List Value}{t e:TypeId}{x y:Operand}{i:TypeInfo}{z v vx:Value}{kk S sz:Nat}{E1:List Ck}{g1 g2:Mem->Prop}{C: ∀M M',M.le M'->g1 M->g1 M'}{D: ∀M M',M.le M'->g2 M->g2 M'}
  (h:run c.T c.N k m s=⟨k',.ops all (⟨some d,.call ⟨.builtin .append,#[x,y],#[t,t]⟩,ty,ps,af,none⟩::rest),s',O,E⟩) (hx:IA s'.L .t x y=some (.sl kk v,.sl S vx,E1))
  (V:(KI s'.F kk,KI s'.F S,DO s'.H kk)=(some (@Kn.mk α inh v sz l f g1 C),some (@Kn.mk α inh vx sz b f g2 D),some (.ho (.own e sz v l.length (l.flatMap f)))))
  (X:c.P.underlying t=some (.slice e)) (hi:c.P.info? e=some i) (hz:i.zero=some z) (q:(i.size,z.cells.size,i.bytes,Nat.blt 0 by',Nat.blt d c.N)=(sz,sz,by',true,true)) (h1: ∀x,∀u∈f x,u.oneCell'=true) (hb:(len l+len b)*by'<=140737488355328)
  (hn: ∀v',XG c B k' (.ops all rest) ⟨(kk,kn v' sz (l++b) f)::s'.F,D4 s'.H kk (.ho (.own e sz v' (l++b).length ((l++b).flatMap f))),(d,.t,.sl kk v')::s'.L⟩) (hE:A9 E:=by exact Ad) (hO:O:=by exact Af) (hE1:A9 E1:=by exact Ad):XG c B k m s:=by
 simp only[Prod.mk.injEq]at V q
 obtain⟨G,J,K⟩:=V
 refine E7 h (hE:=hE) (hO:=hO) λ w M A=>?_
 obtain⟨j,W,n⟩:=EI (Hr:=c.Hr) K
 obtain⟨Q,R⟩:=GA hx hE1
 refine RL.zN (f:=f) (l:=l) (m:=b) (by':=by') A.st W Q R (A.f.get J).sl X hi hz q.1 q.2.1 h1 q.2.2.1 q.2.2.2.1 hb q.2.2.2.2 (Hs':=λ v'=>HD (D4 s'.H kk (.ho (.own e sz v' (l++b).length ((l++b).flatMap f))))++c.Hr) (λ v'=>(n (.ho (.own e sz v' (l++b).length ((l++b).flatMap f)))).symm) λ v' w' M' hS hle=>E8 (hn v') ⟨hS,AA ⟨?_,(A.f.get G).sz,trivial⟩ λ x hx=>(A.f x hx).mono hle,A.le.trans hle⟩ U
 have h5:(HD (D4 s'.H kk (.ho (.own e sz v' (l++b).length ((l++b).flatMap f))))++c.Hr)[j]? =some (.own e sz v' (l++b).length ((l++b).flatMap f)):=by
  rw[n];rw[List.getElem?_set_self (List.getElem?_eq_some_iff.1 W).1];rfl
 exact hS.sl h5
theorem HP{α:Type}[inh:Inhabited α](kk:Nat)(a b:Int){l:List α}{f:α->List Value}{t e:TypeId}{x:Operand}{lo hi:Option Operand}{v:Value}{kx sz:Nat}{E1:List Ck}{gd:Option (Nat×Bool)}{g1:Mem->Prop}{Q: ∀M M',M.le M'->g1 M->g1 M'}
  (h:run c.T c.N k m s=⟨k',.ops all (⟨some d,.slice t x lo hi none,ty,ps,af,none⟩::rest),s',O,E⟩) (hx:B5 s'.L .t x=some (.sl kx v,E1)) (hk:KI s'.F kx=some (@Kn.mk α inh v sz l f g1 Q))
  (D:match lo with|some y=> ∃K,∃E,B5 s'.L .t y=some (.v (.int K a),E)/\A9 E|none=>a=0) (j:match hi with|some y=> ∃K,∃E,B5 s'.L .t y=some (.v (.int K b),E)/\A9 E|none=>b=len l)
  (R:c.P.underlying t=some (.slice e)) (S: ∀w,(sizeOf e).run c.P w= .ok sz w) (V:0<=a/\a<=b/\b<=len l) (W:(lo.isSome||hi.isSome)=true)
  (X: ∀v',XG c B k' (.ops all rest) ⟨(kk,kn v' sz (Eng.sub l a b) f)::s'.F,s'.H,(d,.t,.sl kk v')::s'.L⟩) (hE:A9 E:=by exact Ad) (hO:O:=by exact Af) (hE1:A9 E1:=by exact Ad) (hd:Nat.blt d c.N=true:=by exact rfl):XG c B k m s:=by
 refine E7 h (hE:=hE) (hO:=hO) λ w M i=>?_
 have n:=i.f.get hk
 have q:Sl M sz l.length v (l.flatMap f):=n.sl
 have A:=AF hx (hE:=hE1)
 cases lo with
 |some y=>
  obtain⟨K,E2,h2,hE2⟩:=D
  cases hi with
  |some z=>
   obtain⟨kd',E3,h3,C⟩:=j
   obtain⟨v',G,J⟩:=AE6 (P:=c.P) q n.sz R S a b V
   exact RL.v .none (.AE9 A (AF h2 (hE:=hE2)) (AF h3 (hE:=C)) J) hd (E8 (X v') ⟨i.st,AA ⟨G,n.sz,trivial⟩ i.f,i.le⟩ U)
  |none=>
   have hb:b=len l:=j
   subst hb
   obtain⟨v',G,J⟩:=AE8 (P:=c.P) q n.sz R S a (len l) V
   exact RL.v .none (.mF A (AF h2 (hE:=hE2)) J) hd (E8 (X v') ⟨i.st,AA ⟨G,n.sz,trivial⟩ i.f,i.le⟩ U)
 |none=>
  have ha:a=0:=D
  subst ha
  cases hi with
  |some z=>
   obtain⟨kd',E3,h3,C⟩:=j
   obtain⟨v',G,J⟩:=AE7 (P:=c.P) q n.sz R S 0 b V
   exact RL.v .none (.mE A (AF h3 (hE:=C)) J) hd (E8 (X v') ⟨i.st,AA ⟨G,n.sz,trivial⟩ i.f,i.le⟩ U)
  |none=>cases W
theorem IB{α:Type}[inh:Inhabited α](kk:Nat)(l:List α)(f:α->List Value)(sz:Nat)(e:TypeId){t:TypeId}{n:Nat}{xs:List (Nat×Operand)}{vs:List (Nat×XV)}{E1:List Ck}(j: ∀x,(f x).length=sz)(h:run c.T c.N k m s=⟨k',.ops all (⟨some d,.buildSlice t n ⟨xs⟩,ty,ps,af,none⟩::rest),s',O,E⟩)
  (hx:RX s'.L xs=some (vs,E1)) (q: ∀w,(Instr.buildSlice t n (vs.map λ x=>(x.1,x.2.d)).toArray).run c.P w= .ok (.slice (some ⟨w.heap.size,0,none⟩) n n) (w.alloc (.cells (l.flatMap f).toArray e))) (hd:(Nat.blt d c.N,Nat.beq l.length n,Nat.ble n 9223372036854775807)=(true,true,true))
  (y: ∀v,XG c B k' (.ops all rest) ⟨s'.F,(kk,.pv e (@kn α inh v sz l f) j)::s'.H,(d,.t,.sl kk v)::s'.L⟩) (hE:A9 E:=by exact Ad) (hO:O:=by exact Af) (hE1:A9 E1:=by exact Ad):XG c B k m s:=by
 simp only[Prod.mk.injEq]at hd
 have b:=Nat.eq_of_beq_eq_true hd.2.1
 subst b
 refine E7 h (hE:=hE) (hO:=hO) λ w M i=>?_
 have z:(⟨xs⟩:Array (Nat×Operand))=xs.toArray:=rfl
 rw[z]
 exact RL.AB6 (cs:=l.flatMap f) i.st (cY hx hE1) (BR f sz j l) hd.2.2 q hd.1 λ v w' hS=>E8 (y v) ⟨hS,i.f,i.le⟩ U
theorem AF0{α:Type}[inh:Inhabited α](kk t:Nat)(e:TypeId)(sz:Nat)(f:α->List Value)(n: ∀x,(f x).length=sz)(hl:BM s.L t=some (.t,.v (.slice none 0 0)))
  (q:XG c B k m ⟨s.F,(kk,.pv e (@kn α inh (.slice none 0 0) sz [] f) n)::s.H,(t,.t,.sl kk (.slice none 0 0))::s.L⟩):XG c B k m s:=by
 intro a w ⟨h1,M,h⟩
 refine q a w ⟨⟨h1.size,h1.E4,λ j g v l=>?_⟩,M,h.st.cC e sz,h.f,h.le⟩
 have i:=I8 hl
 by_cases he:t=j
 ·subst he
  have b:look ((t,true,Value.slice none 0 0)::s.L.d) t=some (g,v):=l
  rw[N3]at b;cases b
  exact h1.val _ _ _ i
 ·have b:look ((t,true,Value.slice none 0 0)::s.L.d) j=some (g,v):=l
  rw[O1 he]at b
  exact h1.val _ _ _ b
theorem IT(by':Nat){α:Type}[inh:Inhabited α]{l n:List α}{f:α->List Value}{t e:TypeId}{x y:Operand}{i:TypeInfo}{z v vx:Value}{kk Q sz:Nat}{E1:List Ck}{A: ∀x,(f x).length=sz}{g2:Mem->Prop}{D: ∀M M',M.le M'->g2 M->g2 M'}
  (h:run c.T c.N k m s=⟨k',.ops all (⟨some d,.call ⟨.builtin .append,#[x,y],#[t,t]⟩,ty,ps,af,none⟩::rest),s',O,E⟩) (hx:IA s'.L .t x y=some (.sl kk v,.sl Q vx,E1))
  (G:(KI s'.F Q,DO s'.H kk)=(some (@Kn.mk α inh vx sz n f g2 D),some (.pv e (@kn α inh v sz l f) A)))
  (R:c.P.underlying t=some (.slice e)) (hi:c.P.info? e=some i) (S:i.zero=some z) (q:(i.size,z.cells.size,i.bytes,Nat.blt 0 by',Nat.blt d c.N)=(sz,sz,by',true,true)) (h1: ∀x,∀u∈f x,u.oneCell'=true) (V:(len l+len n)*by'<=140737488355328)
  (W: ∀v',XG c B k' (.ops all rest) ⟨s'.F,D4 s'.H kk (.pv e (@kn α inh v' sz (l++n) f) A),(d,.t,.sl kk v')::s'.L⟩) (hE:A9 E:=by exact Ad) (hO:O:=by exact Af) (hE1:A9 E1:=by exact Ad):XG c B k m s:=by
 simp only[Prod.mk.injEq]at q G
 refine E7 h (hE:=hE) (hO:=hO) λ w M C=>?_
 obtain⟨j,X,b⟩:=EI (Hr:=c.Hr) G.2
 obtain⟨J,K⟩:=GA hx hE1
 exact RL.AB7 (f:=f) (l:=l) (m:=n) (by':=by') C.st X J K (C.f.get G.1).sl R hi S q.1 q.2.1 h1 q.2.2.1 q.2.2.2.1 V q.2.2.2.2 (Hs':=λ v'=>HD (D4 s'.H kk (.pv e (@kn α inh v' sz (l++n) f) A))++c.Hr) (λ v'=>(b (.pv e (@kn α inh v' sz (l++n) f) A)).symm) λ v' w' hS=>E8 (W v') ⟨hS,C.f,C.le⟩ U
theorem H0{α:Type}[inh:Inhabited α](kk:Nat){e:TypeId}{v:Value}{sz:Nat}{l:List α}{f:α->List Value}{hl: ∀x,(f x).length=sz}{h:List (Nat×HX)}(n:MA s.H kk=some (.pv e (@kn α inh v sz l f) hl,h))(q:XG c B k m ⟨(kk,@kn α inh v sz l f)::s.F,h,s.L⟩):XG c B k m s:=by
 intro a w ⟨h1,M,j⟩
 have hS:=j.st.perm (Hs':=HX.d (.pv e (@kn α inh v sz l f) hl)::(HD h++c.Hr)) (by have:=(WS n).append_right c.Hr;exact this)
 have hi:(HX.d (.pv e (@kn α inh v sz l f) hl)::(HD h++c.Hr))[0]? =some (.priv e sz v l.length (l.flatMap f)):=rfl
 obtain⟨M',b,hle⟩:=hS.show hi
 refine q a w ⟨h1,M',b.erase 0 U,AA ⟨b.sl (i:=0) U,hl,trivial⟩ λ x hx=>(j.f x hx).mono hle,j.le.trans hle⟩
theorem L6{α:Type}[inh:Inhabited α](b:α){l:List α}{f:α->List Value}{t e:TypeId}{x y:Operand}{v:Value}{kk sz j n:Nat}{i:Int}{E1:List Ck}{u:XV}{A: ∀x,(f x).length=sz}
  (h:run c.T c.N k m s=⟨k',.ops all (⟨none,.store t x y,ty,ps,af,none⟩::rest),s',O,E⟩) (hx:IA s'.L .t x y=some (.el kk v sz i j,u,E1)) (V:DO s'.H kk=some (.pv e (@kn α inh v sz l f) A))
  (W: ∀w,(sizeOf t).run c.P w= .ok n w) (hu:u.d.cells.toList.length=n) (G:(Nat.blt 0 n,Nat.ble (j+n) sz,u.d.cells.toList.all (·.oneCell'))=(true,true,true)) (X:DF (f (at' l i)) j u.d.cells.toList=f b) (S:0<=i/\i<len l)
  (hn: ∀l',l'=l.set i.toNat b->XG c B k' (.ops all rest) ⟨s'.F,D4 s'.H kk (.pv e (@kn α inh v sz l' f) A),s'.L⟩) (hE:A9 E:=by exact Ad) (hO:O:=by exact Af) (hE1:A9 E1:=by exact Ad):XG c B k m s:=by
 simp only[Prod.mk.injEq]at G
 refine E7 h (hE:=hE) (hO:=hO) λ w M J=>?_
 obtain⟨q,hq,z⟩:=EI (Hr:=c.Hr) V
 obtain⟨K,Q⟩:=GA hx hE1
 obtain⟨C,_⟩:=DB l S.1 S.2
 have R:=Nat.le_of_ble_eq_true G.2.1
 have D:i.toNat*sz+j+n<=(l.flatMap f).length:=by
  rw[BR f sz A]
  have:=Nat.mul_le_mul_right sz (show i.toNat+1<=l.length from C)
  rw[Nat.add_mul]at this;omega
 refine RL.AB8 (P:=c.P) (o:=i.toNat*sz+j) (xs':=(l.set i.toNat b).flatMap f) (Hs':=HD (D4 s'.H kk (.pv e (@kn α inh v sz (l.set i.toNat b) f) A))++c.Hr) J.st hq (by have:=K;simp only[XV.d,XV.d1,XV.d0,Nat.add_assoc]at this ⊢;exact this) Q W hu G.1 D G.2.2 (AB9 A l i.toNat b j _ C X (by rw[hu];exact R)) ?_ λ w' hS=>E8 (hn _ U) ⟨hS,J.f,J.le⟩ U
 rw[z]
 show(HD s'.H++c.Hr).set q (.priv e sz v l.length ((l.set i.toNat b).flatMap f))=(HD s'.H++c.Hr).set q (.priv e sz v (l.set i.toNat b).length ((l.set i.toNat b).flatMap f))
 rw[List.length_set]
def RY(J:XS->Prop):List Fr->Nat->Option (List Fr×Code×List Fr)
 |[],_=>none
 |x::k,0=>match x with
  | .seq y=>some (.loop J::k,y,k)
  |_=>none
 |x::k,n+1=>match RY J k n with
  |some (a,y,b)=>some (x::a,y,b)
  |none=>none
theorem cZ{J:XS->Prop}: ∀ {k:List Fr} {n:Nat} {a b:List Fr} {y:Code},RY J k n=some (a,y,b)-> ∃p,k=p++ .seq y::b/\a=p++ .loop J::b
 |[],_,_,_,_,h=>by cases h
 |x::k,0,a,b,e,h=>by
  simp only[RY]at h
  split at h
  ·simp only[Option.some.injEq,Prod.mk.injEq]at h;obtain⟨rfl,rfl,rfl⟩:=h;exact⟨[],rfl,rfl⟩
  ·cases h
 |x::k,n+1,a,b,e,h=>by
  simp only[RY]at h
  split at h
  ·rename_i a2 q s i
   simp only[Option.some.injEq,Prod.mk.injEq]at h;obtain⟨rfl,rfl,rfl⟩:=h
   obtain⟨p,j,l⟩:=cZ i
   exact⟨x::p,by rw[j];rfl,by rw[l];rfl⟩
  ·cases h
theorem RZ{n b:Act->World->Prop}{Q Q':Exit->Act->World->Prop}(i: ∀a w,n a w->b a w)(j: ∀e a w,Q e a w->Q' e a w)(e:Exit)(a:Act)(w:World)(h:Exit.then n Q e a w):Exit.then b Q' e a w:=by
 cases e<;>first|exact i _ _ h|exact j _ _ _ h
theorem MF{K j:List Fr}(h: ∀e a w,post c B K e a w->post c B j e a w): ∀(p:List Fr) (e:Exit) (a:Act) (w:World),post c B (p++K) e a w->post c B (p++j) e a w
 |[],e,a,w,q=>h e a w q
 | .seq y::p,e,a,w,q=>RZ (λ _ _ h1=>c.W.mono h1 (MF h p)) (MF h p) e a w q
 | .block id::p,e,a,w,q=>by
  cases e with
  |exit b=>
   show if b=id then _ else _
   have i:if b=id then _ else _:=q
   split<;>rename_i hid
   ·rw[if_pos hid]at i;exact MF h p _ a w i
   ·rw[if_neg hid]at i;exact MF h p _ a w i
  |_=>exact MF h p _ a w q
 | .scope::p,e,a,w,q=>by cases e<;>first|exact q.elim|exact MF h p _ a w q
 | .loop J::p,e,a,w,q=>RZ (λ _ _ h1=>h1) (MF h p) e a w q
theorem CZ(n:Nat)(J:XS->Prop){b:Bool}{x y z:Code}{j q:List Fr}(h:run c.T c.N k m s=⟨k',.br b x y,s',O,E⟩)(A:RY J k' n=some (j,z,q))
  (C:b=true->XG c B j (.code x) s') (D:b=false->XG c B j (.code y) s') (F: ∀s',J s'->XG c B q (.code z) s') (hE:A9 E:=by exact Ad) (hO:O:=by exact Af):XG c B k m s:=by
 obtain⟨p,rfl,rfl⟩:=cZ A
 have hm: ∀e a w,post c B (.loop J::q) e a w->post c B (.seq z::q) e a w:=λ e a w h=>RZ (λ a w ⟨s',G,i⟩=>F s' G a w i) (λ _ _ _ h=>h) e a w h
 exact A1 h (hE:=hE) (hO:=hO) (λ l a w i=>c.W.mono (C l a w i) (MF hm p)) (λ l a w i=>c.W.mono (D l a w i) (MF hm p))
theorem AQ{J:XS->Prop}(s2:XS)(h:run c.T c.N k m s=⟨.loop J::k',.next,s',O,E⟩)(h0:(⟨JD s2.F s'.F,JE s2.H s'.H,GH (keys s2.L) s'.L⟩:XS)=s2)(b:J s2)(hE:A9 E:=by exact Ad)(hO:O:=by exact Af):XG c B k m s:=
 C5 h hE hO λ a w e=>⟨s2,b,e.sub (XS.N9 h0)⟩
end
def ET{γ:Type}(w:World)(M:Mem)(u:γ->Value)(pu:γ->Prop)(Fg:γ->List (Nat×Kn)):Ending->World->Prop:=
 λ e w'=> ∃g M',e= .returned (u g)/\pu g/\Grow w M w' M'/\BH M' (Fg g)
def BY{γ:Type}(w0:World)(M0 M:Mem)(Rs:List HO)(u:γ->Value)(pu:γ->Prop)(Fg:γ->List (Nat×Kn))(Hg:γ->List HO):Ending->World->Prop:=
 λ e w'=> ∃g M',e= .returned (u g)/\pu g/\M.le M'/\St w0 M0 w' M' (Hg g++Rs)/\BH M' (Fg g)
def PX:List Nat->List (Nat×Kn)->List (Nat×Kn)
 |k::ks,(_,x)::F=>(k,x)::PX ks F
 |_,_=>[]
theorem UH{M:Mem}: ∀ {e:List Nat} {F:List (Nat×Kn)},BH M F->BH M (PX e F)
 |[],_,_=>λ x hx=>by cases hx
 |_::_,[],_=>λ x hx=>by cases hx
 |k::e,(i,x)::F,h=>λ y b=>by
  rcases List.mem_cons.1 b with rfl|b
  ·exact h (i,x) (.head _)
  ·exact UH (λ z j=>h z (.tail _ j)) y b
theorem BH.app {M:Mem}{F G:List (Nat×Kn)}(h:BH M F)(k:BH M G):BH M (F++G):=λ x hx=>by
 rcases List.mem_append.1 hx with hx|hx
 ·exact h x hx
 ·exact k x hx
theorem BH.mono {M M':Mem}{F:List (Nat×Kn)}(h:BH M F)(hm:M.le M'):BH M' F:=λ x hx=>(h x hx).mono hm
def FK:List Nat->List (Nat×HX)->Option (List (Nat×HX)×List (Nat×HX))
 |[],H=>some ([],H)
 |k::ks,H=>match MA H k with
  |some (x,H')=>match FK ks H' with
   |some (A,R)=>some ((k,x)::A,R)
   |none=>none
  |none=>none
theorem PY: ∀ {b:List Nat} {H A R:List (Nat×HX)},FK b H=some (A,R)->(HD A++HD R).Perm (HD H)
 |[],H,A,R,h=>by simp only[FK,Option.some.injEq,Prod.mk.injEq]at h;obtain⟨rfl,rfl⟩:=h;exact .refl _
 |k::b,H,A,R,h=>by
  unfold FK at h
  split at h
  ·rename_i x i h1
   split at h
   ·rename_i j l e
    simp only[Option.some.injEq,Prod.mk.injEq]at h;obtain⟨rfl,rfl⟩:=h
    exact((PY e).cons x.d).trans (WS h1)
   ·cases h
  ·cases h
def dA(dd:Option Tmp)(v:XV)(L:XE):XE:=match dd with
 |some d=>(d,.t,v)::L
 |none=>L
def mH(dd:Option Tmp)(N:Nat):Bool:=match dd with
 |some d=>Nat.blt d N
 |none=>true
section
variable {c:Cx} {B:Exit->Act->World->Prop} {k k':List Fr} {m:Md} {s s':XS} {O:Prop} {E:List Ck} {all:Array Oper} {rest:List Oper} {d:Nat} {ty:TypeId} {ps:String} {af:Array Edge}
theorem D5.sl {F:List (Nat×Kn)}{H:List (Nat×HX)}{w:World}{M:Mem}(h:D5 c F H w M)(k:Nat){α:Type}{inh:Inhabited α}{v:Value}{sz:Nat}{l:List α}{f:α->List Value}{g:Mem->Prop}{hg: ∀M M',M.le M'->g M->g M'}(b:KI F k=some (@Kn.mk α inh v sz l f g hg)):Sl M sz l.length v (l.flatMap f):=(h.f.get b).sl
def callee(L:XE):Operand->Option (FuncId×List Value×List Value×List Ck)
 | .func f=>some (f,[],[],[])
 |x=>match B5 L .t x with
  |some (.v (.func (.func f) ⟨a⟩ ⟨b⟩),E)=>some (f,a,b,E)
  |_=>none
theorem dB{P:Program}{ops:Array Oper}{Q:Exit->Act->World->Prop}{N:Nat}{L:XE}{w:World}{k:Operand}{f:FuncId}{a b:List Value}{E1:List Ck}{xs:List Operand}{vs:List Value}{tys:Array TypeId}{R:Ending->World->Prop}{q:Option Tmp}
  (l:CT P f) (h:callee L k=some (f,a,b,E1)) (hE1:A9 E1) (hx:EG L.d true xs vs) (z:Calls P f (a++vs++b).toArray w R)
  (A: ∀v w',R (.returned v) w'-> ∀ac,AW ac N L.d->wpList P ops Q rest (ac.put q v) w') (hp: ∀n w',R (.panicked n) w'-> ∀ac,AW ac N L.d->Q (.panic n) ac w') (ho: ∀w',¬R .outgrown w'):
  RL P ops Q N (⟨q,.call ⟨.value k,⟨xs⟩,tys⟩,ty,ps,af,none⟩::rest) L.d w:=by
 intro ac i
 refine wpList_plain U λ K B=>?_
 have key:(execOp ac.eval ⟨q,.call ⟨.value k,⟨xs⟩,tys⟩,ty,ps,af,none⟩).run P w= .ok (.enter f (a++vs++b).toArray) w:=by
  have C:(⟨xs⟩:Array Operand)=xs.toArray:=rfl
  rw[C]
  cases k with
  |func s=>
   simp only[callee,Option.some.injEq,Prod.mk.injEq]at h
   obtain⟨rfl,rfl,rfl,rfl⟩:=h
   simpa using RC l hx i U
  |tmp t=>
   simp only[callee]at h
   split at h
   ·rename_i s a' j y h1
    simp only[Option.some.injEq,Prod.mk.injEq]at h
    obtain⟨rfl,rfl,rfl,rfl⟩:=h
    exact bH (fs:=a') (cs:=j) l (AF h1 (hE:=hE1)) hx i U
   ·cases h
  |const v=>
   simp only[callee]at h
   split at h
   ·rename_i s a' j y h1
    simp only[Option.some.injEq,Prod.mk.injEq]at h
    obtain⟨rfl,rfl,rfl,rfl⟩:=h
    exact bH (fs:=a') (cs:=j) l (AF h1 (hE:=hE1)) hx i U
   ·cases h
  |global g=>
   simp only[callee]at h
   split at h
   ·rename_i s a' j y h1
    simp only[Option.some.injEq,Prod.mk.injEq]at h
    obtain⟨rfl,rfl,rfl,rfl⟩:=h
    exact bH (fs:=a') (cs:=j) l (AF h1 (hE:=hE1)) hx i U
   ·cases h
 simp only[Oper.wp,key,Oper.upon_enter]
 refine z.mono λ e w' he=>?_
 cases e with
 |returned v=>exact B _ _ (A v w' he ac i)
 |panicked n=>exact hp n w' he ac i
 |outgrown=>exact absurd he (ho w')
theorem S0{N:Nat}{L:XE}{a:Act}(b:AW a N L.d){d:Nat}(hd:Nat.blt d N=true)(v:XV):AW (a.put (some d) v.d) N (XE.d ((d,.t,v)::L)):=b.put hd true v.d
theorem B3{γ:Type}(e:γ->XV)(q:List Nat){u:γ->Value}{pu:γ->Prop}{Fg:γ->List (Nat×Kn)}{j:Operand}{f:FuncId}{l n:List Value}{E1 E2:List Ck}{xs:List Operand}{tys:Array TypeId}{vs:List XV}
  (h:run c.T c.N k m s=⟨k',.ops all (⟨some d,.call ⟨.value j,⟨xs⟩,tys⟩,ty,ps,af,none⟩::rest),s',O,E⟩) (y:callee s'.L j=some (f,l,n,E1)) (z:CT c.P f) (hx:JZ s'.L .t xs=some (vs,E2))
  (A: ∀w M,D5 c s'.F s'.H w M->Calls c.P f (l++vs.map XV.d++n).toArray w (ET w M u pu Fg))
  (C: ∀g,pu g->XG c B k' (.ops all rest) ⟨PX q (Fg g)++s'.F,s'.H,(d,.t,e g)::s'.L⟩) (hE:A9 E:=by exact Ad) (hO:O:=by exact Af) (hd:Nat.blt d c.N=true:=by exact rfl) (hE1:A9 (E1++E2):=by exact Ad) (hu: ∀g,(e g).d=u g:=by intros;rfl):XG c B k m s:=by
 refine E7 h (hE:=hE) (hO:=hO) λ w M b=>dB z y hE1.app.1 (MB hx hE1.app.2) (A w M b) ?_ (λ G w' i=>?_) (λ w' i=>?_)
 ·rintro v w' ⟨g,M',he,hp,hg,hF⟩ ac D
  cases he
  have:=S0 D hd (e g)
  rw[hu]at this
  exact c.W.back (C g hp _ w' ⟨this,M',b.st.grow hg,(UH hF).app (b.f.mono (hg.le b.st.sat)),b.le.trans (hg.le b.st.sat)⟩)
 ·obtain⟨g,M',he,_⟩:=i;cases he
 ·obtain⟨g,M',he,_⟩:=i;cases he
theorem AY{γ:Type}(ids:List Nat)(i:γ->XV)(J:List Nat)(l:γ->List (Nat×HX)){u:γ->Value}{pu:γ->Prop}{Fg:γ->List (Nat×Kn)}{Hg:γ->List HO}{z:Operand}{f:FuncId}{C D:List Value}{E1 E2:List Ck}{xs:List Operand}{tys:Array TypeId}{vs:List XV}{A R:List (Nat×HX)}{b:Option Tmp}
  (h:run c.T c.N k m s=⟨k',.ops all (⟨b,.call ⟨.value z,⟨xs⟩,tys⟩,ty,ps,af,none⟩::rest),s',O,E⟩) (K:callee s'.L z=some (f,C,D,E1)) (Q:CT c.P f) (hx:JZ s'.L .t xs=some (vs,E2))
  (S:FK ids s'.H=some (A,R)) (V: ∀w M,St c.w0 c.M0 w M (HD A++(HD R++c.Hr))->BH M s'.F->Calls c.P f (C++vs.map XV.d++D).toArray w (BY c.w0 c.M0 M (HD R++c.Hr) u pu Fg Hg))
  (X: ∀g,pu g->XG c B k' (.ops all rest) ⟨PX J (Fg g)++s'.F,l g++R,dA b (i g) s'.L⟩) (hE:A9 E:=by exact Ad) (hO:O:=by exact Af) (hd:mH b c.N=true:=by exact rfl) (hE1:A9 (E1++E2):=by exact Ad) (hu: ∀g,(i g).d=u g:=by intros;rfl) (hH: ∀g,HD (l g)=Hg g:=by intros;rfl):XG c B k m s:=by
 refine E7 h (hE:=hE) (hO:=hO) λ w M j=>?_
 have n:St c.w0 c.M0 w M (HD A++(HD R++c.Hr)):=j.st.perm (by rw[<-List.append_assoc];exact(PY S).append_right _)
 refine dB Q K hE1.app.1 (MB hx hE1.app.2) (V w M n j.f) ?_ (λ ch w' q=>?_) (λ w' q=>?_)
 ·rintro v w' ⟨g,M',he,hp,hle,hS,hF⟩ ac G
  cases he
  have y:AW (ac.put b (u g)) c.N (XE.d (dA b (i g) s'.L)):=by
   cases b with
   |some d=>have:=S0 G hd (i g);rw[hu]at this;exact this
   |none=>exact G
  refine c.W.back (X g hp _ w' ⟨y,M',?_,(UH hF).app (j.f.mono hle),j.le.trans hle⟩)
  have e:HD (l g++R)++c.Hr=Hg g++(HD R++c.Hr):=by rw[<-hH];unfold HD;rw[List.map_append,List.append_assoc]
  rw[e];exact hS
 ·obtain⟨g,M',he,_⟩:=q;cases he
 ·obtain⟨g,M',he,_⟩:=q;cases he
theorem L7{b:Bool}(e:b=true){E:List Ck}(h:E=[.b true b]):A9 E:=by
 subst h;intro c i;rw[List.mem_singleton.1 i];exact λ _=>e
theorem F9(l:XV){op:Op}{gd:Option (Nat×Bool)}{b:Bool}(h:run c.T c.N k m s=⟨k',.ops all (⟨some d,op,ty,ps,af,gd⟩::rest),s',O,E⟩)(hg:(HN all s'.L gd,Nat.blt d c.N)=(some (.g b),true))
  (h1:b=true->XG c B k' (.ops all (⟨some d,op,ty,ps,af,none⟩::rest)) s') (q:b=false->XG c B k' (.ops all rest) ⟨s'.F,s'.H,(d,.g b,l)::s'.L⟩) (hE:A9 E:=by exact Ad) (hO:O:=by exact Af):XG c B k m s:=by
 simp only[Prod.mk.injEq]at hg
 refine C5 h hE hO λ a w ⟨i,M,n⟩=>?_
 have e:=DZ.wanted (o:=⟨some d,op,ty,ps,af,gd⟩) (M9 hg.1) i
 have j:(Gd.g b).d=b:=rfl
 rw[j]at e
 cases b with
 |true=>exact c.W.want e (h1 U a w ⟨i,M,n⟩)
 |false=>
  refine c.W.one ?_
  unfold wpList
  rw[e]
  refine c.W.back (q U _ w ⟨?_,M,n⟩)
  exact i.put hg.2 false l.d
def O9(
     T:TT) (H:List (Nat×HX)) (L:XE):List ResultVar->Option (List XV×List Ck)
 |[]=>some ([],[])
 |r::rs=>match O9 T H L rs with
  |some (vs,E)=>match r with
   | .tmp t=>match BM L t with
    |some (.t,v)=>some (v::vs,E)
    |_=>none
   | .cell t ty=>match BM L t with
    |some (.t,.bx k b o)=>match WK T [] H ty (.bx k b o)with
     |some (v,[],E')=>some (v::vs,E'++E)
     |_=>none
    |_=>none
  |none=>none
def PZ:List XV->Value
 |[v]=>v.d
 |vs=>.tuple (vs.map XV.d).toArray
theorem dC{P:Program}{T:TT}(hT:DP P T){H:List (Nat×HX)}{Hr:List HO}{w0 w:World}{M0 M:Mem}{L:XE}{a:Act}{N:Nat}(hS:St w0 M0 w M (HD H++Hr))(i:AW a N L.d): ∀ {rs:List ResultVar} {vs:List XV} {E:List Ck},O9 T H L rs=some (vs,E)->A9 E->(rs.mapM (KH a.tmps)).run P w= .ok (vs.map XV.d) w
 |[],vs,E,h,_=>by simp only[O9,Option.some.injEq,Prod.mk.injEq]at h;obtain⟨rfl,rfl⟩:=h;rfl
 |r::rs,vs,E,h,hE=>by
  unfold O9 at h
  split at h
  ·rename_i j q h1
   have fin: ∀(v:XV),(KH a.tmps r).run P w= .ok v.d w->A9 q->((r::rs).mapM (KH a.tmps)).run P w= .ok ((v::j).map XV.d) w:=λ v s l=>by
    simp only[List.mapM_cons,Sem.run_bind,s,Result.andThen_ok,dC hT hS i h1 l,Sem.run_pure,List.map_cons]
   split at h
   ·split at h
    ·rename_i t v hl
     simp only[Option.some.injEq,Prod.mk.injEq]at h;obtain⟨rfl,rfl⟩:=h
     exact fin _ (by simp only[KH,i.get (I8 hl)];rfl) hE
    ·cases h
   ·split at h
    ·rename_i t ty B k b o hl
     split at h
     ·rename_i v E2 y
      simp only[Option.some.injEq,Prod.mk.injEq]at h;obtain⟨rfl,rfl⟩:=h
      refine fin _ ?_ hE.app.2
      have hp:PV P (· =w) L.d true ⟨some 0,.load ty (.tmp t),0,"",#[],none⟩ v.d:=lG (W:=.t) (gd:=none) hT (F:=[]) (Hr:=Hr) A3 hS HJ y hE.app.1 (.t (I8 hl)) (λ _=>trivial)
      have e:=hp a N i U w U
      have z:=i.get (I8 hl)
      have n:a.tmps.getD t undef= .pointer (some ⟨b,o,none⟩):=z
      have A:a.eval (.tmp t)= .pointer (some ⟨b,o,none⟩):=n
      simp only[execOp,A,Sem.run_bind,Instr.loadAt,Instr.sureAddr,Sem.run_pure,Result.andThen_ok]at e
      simp only[KH,n,asAddr,Sem.run_bind,Sem.run_pure,Result.andThen_ok]
      cases hl2:(loadVar ty ⟨b,o,none⟩).run P w with
      |ok x w'=>rw[hl2]at e;simp only[Result.andThen_ok,Result.ok.injEq,Next.value.injEq]at e;obtain⟨rfl,rfl⟩:=e;rfl
      |halt x w'=>rw[hl2]at e;cases e
     ·cases h
    ·cases h
  ·cases h
theorem A2{fn:Func}{R:Ending->World->Prop}{rs:List ResultVar}{vs:List XV}{E2:List Ck}(e:Ends c.P fn R B)(i:fn.results=⟨rs⟩)(h:run c.T c.N k m s=⟨[],.ret,s',O,E⟩)(hl:O9 c.T s'.H s'.L rs=some (vs,E2))(j: ∀w M,D5 c s'.F s'.H w M->R (.returned (PZ vs)) w)(hE:A9 E:=by exact Ad)(hO:O:=by exact Af)(hE2:A9 E2:=by exact Ad):XG c B k m s:=
 C5 h hE hO λ a w ⟨h1,M,b⟩=>e.all _ _ _ (bodyPost_ret (v:=PZ vs) (by
  rw[kI,i]
  have l:=dC c.hT b.st h1 hl hE2
  have n:((⟨rs⟩:Array ResultVar).mapM (KH a.tmps)).run c.P w= .ok (vs.map XV.d).toArray w:=by
   rw[Array.mapM_eq_mapM_toList]
   refine(Sem.run_bind' c.P _ _ w).trans ?_
   rw[l];rfl
  rw[Sem.run_bind,n]
  simp only[Result.andThen_ok,Sem.run_pure]
  congr 1
  match vs with
  |[]=>rfl
  |[v]=>rfl
  |_::_::_=>simp[PZ]) h1.E4 (j w M b))
theorem WW{fn:Func}{R:Ending->World->Prop}(b:Ends c.P fn R B)(e:fn.results= #[])(h:run c.T c.N k m s=⟨[],.next,s',O,E⟩)(i: ∀w M,D5 c s'.F s'.H w M->R (.returned (.tuple #[])) w)(hE:A9 E:=by exact Ad)(hO:O:=by exact Af):XG c B k m s:=
 C5 h hE hO λ a w ⟨h1,M,j⟩=>b.e0 e (i w M j) a h1
def XQ(c:Cx)(B:Exit->Act->World->Prop)(k:List Fr)(all:Array Oper)(l:List Oper)(s:XS):Prop:= ∀w M,D5 c s.F s.H w M->RQ c.P all (λ w'=>Ext w w') c.N (λ a=> ∀w',St c.w0 c.M0 w' M (HD s.H++c.Hr)->post c B k .normal a w') l s.L.d
theorem DQ{id:Nat}{l:List Oper}(h:run c.T c.N k m s=⟨k',.code (.region id ⟨l⟩ true),s',O,E⟩)(hm:c.P.follows .mixedOrders=true)(i:Region.lexB .any l.toArray=true)(j:XQ c B k' l.toArray l s')(b:c.W.plain:=by exact True.intro)(hE:A9 E:=by exact AG rfl)(hO:O:=by exact Af):XG c B k m s:=
 C5 h hE hO λ a w ⟨h1,M,e⟩=>c.W.draw b (CW.bE e.st hm i (j w M e) a h1)
structure QR:Type where
 l:List Oper
 L:XE
 O:Prop
 E:List Ck
def UI(W:Gd):List Prop->Prop->(Prop->QR)->QR
 |[],O,K=>K O
 |p::ps,O,K=>match W with
  | .t=>UI W ps (p/\O) K
  | .g b=>UI W ps ((b=false\/p)/\O) K
theorem WX{W:Gd}{K:Prop->QR}: ∀ {ps:List Prop} {O:Prop},∃i,UI W ps O K=K i/\(i->(W.d=true->IS ps)/\O)
 |[],O=>⟨O,rfl,λ h=>⟨λ _=>trivial,h⟩⟩
 |p::ps,O=>by
  unfold UI
  cases W with
  |t=>
   obtain⟨i,h1,e⟩:=WX (W:=.t) (K:=K) (ps:=ps) (O:=p/\O)
   exact⟨i,h1,λ h=>⟨λ j=>⟨(e h).2.1,(e h).1 j⟩,(e h).2.2⟩⟩
  |g b=>
   obtain⟨i,h1,e⟩:=WX (W:=.g b) (K:=K) (ps:=ps) (O:=(b=false\/p)/\O)
   exact⟨i,h1,λ h=>⟨λ j=>⟨(e h).2.1.resolve_left (by rw[show b=true from j];decide),(e h).1 j⟩,(e h).2.2⟩⟩
def JG(
     T:TT) (N:Nat) (F:List (Nat×Kn)) (H:List (Nat×HX)) (all:Array Oper):List Oper->XE->Prop->List Ck->QR
 |[],L,O,E=>⟨[],L,O,E⟩
 |⟨dst,op,ty,ps,af,gd⟩::rest,L,O,E=>match dst with
  |some d=>match HN all L gd with
   |some W=>match RN T F H L W op with
    |some (v,p,E')=>match Nat.blt d N with
     |true=>UI W p O λ O'=>JG T N F H all rest ((d,W,v)::L) O' (E'++E)
     |false=>⟨⟨dst,op,ty,ps,af,gd⟩::rest,L,O,E⟩
    |none=>⟨⟨dst,op,ty,ps,af,gd⟩::rest,L,O,E⟩
   |none=>⟨⟨dst,op,ty,ps,af,gd⟩::rest,L,O,E⟩
  |none=>⟨⟨dst,op,ty,ps,af,gd⟩::rest,L,O,E⟩
theorem WY{F:List (Nat×Kn)}{H:List (Nat×HX)}: ∀ {l:List Oper} {L:XE} {O:Prop} {E:List Ck},let t:=JG c.T c.N F H all l L O E;t.O->A9 t.E->XQ c B k all t.l ⟨F,H,t.L⟩->O/\A9 E/\XQ c B k all l ⟨F,H,L⟩
 |[],L,O,E=>λ h1 b e=>⟨h1,b,e⟩
 |⟨dst,op,ty,ps,af,gd⟩::rest,L,O,E=>by
  intro t h1 b e
  have i:t=JG c.T c.N F H all (⟨dst,op,ty,ps,af,gd⟩::rest) L O E:=rfl
  unfold JG at i
  split at i
  ·rename_i d
   split at i
   ·rename_i W z
    split at i
    ·rename_i v p A C
     split at i
     ·rename_i hd
      obtain⟨s,hi,j⟩:=WX (W:=W) (K:=λ s=>JG c.T c.N F H all rest ((d,W,v)::L) s (A++E)) (ps:=p) (O:=O)
      rw[i,hi]at h1 b e
      obtain⟨r1,y,D⟩:=WY h1 b e
      obtain⟨hp,n⟩:=j r1
      refine⟨n,(A9.app y).2,λ w M q=>?_⟩
      exact RQ.v (M9 z) (U7 c.hT q.f q.st (λ _ h=>h) C (A9.app y).1 hp) hd (D w M q)
     ·rw[i]at h1 b e;exact⟨h1,b,e⟩
    ·rw[i]at h1 b e;exact⟨h1,b,e⟩
   ·rw[i]at h1 b e;exact⟨h1,b,e⟩
  ·rw[i]at h1 b e;exact⟨h1,b,e⟩
theorem DR{l:List Oper}{F:List (Nat×Kn)}{H:List (Nat×HX)}{L L':XE}(h:JG c.T c.N F H all l L ((0:Int)=0) []=⟨[],L',O,E⟩)(e:XG c B k .next ⟨F,H,L'⟩)(hE:A9 E:=by exact Ad)(hO:O:=by exact Af):XQ c B k all l ⟨F,H,L⟩:=by
 have:=WY (c:=c) (B:=B) (k:=k) (all:=all) (F:=F) (H:=H) (l:=l) (L:=L) (O:=(0:Int)=0) (E:=[])
 rw[h]at this
 exact(this hO hE λ w M b=>RQ.nil λ a i w' hS=>e a w' ⟨i,M,hS,b.f,b.le⟩).2.2
theorem EZ{l:List Oper}{F:List (Nat×Kn)}{H:List (Nat×HX)}{L L':XE}{f:FuncId}{xs:List Operand}{tys:Array TypeId}{gd:Option (Nat×Bool)}{W:Gd}{vs:List XV}{E2:List Ck}{u:Value}{v:XV}
  (h:JG c.T c.N F H all l L ((0:Int)=0) []=⟨⟨some d,.call ⟨.value (.func f),⟨xs⟩,tys⟩,ty,ps,af,gd⟩::rest,L',O,E⟩) (j:CT c.P f) (hg:(HN all L' gd,Nat.blt d c.N)=(some W,true)) (hx:JZ L' W xs=some (vs,E2))
  (n:W.d=true-> ∀w M,D5 c F H w M->Calls c.P f (vs.map XV.d).toArray w (λ e w'=>e= .returned u/\Ext w w')) (q:vx u=some v) (s:XQ c B k all rest ⟨F,H,(d,W,v)::L'⟩) (hE:A9 E:=by exact Ad) (hO:O:=by exact Af) (hE2:A9 E2:=by exact Ad):XQ c B k all l ⟨F,H,L⟩:=by
 simp only[Prod.mk.injEq]at hg
 have:=WY (c:=c) (B:=B) (k:=k) (all:=all) (F:=F) (H:=H) (l:=l) (L:=L) (O:=(0:Int)=0) (E:=[])
 rw[h]at this
 refine(this hO hE λ w M i=>?_).2.2
 have y:=s w M i
 have z:XE.d ((d,W,v)::L')=(d,W.d,u)::L'.d:=by rw[<-cQ q];rfl
 have A:RQ c.P all (λ w'=>Ext w w') c.N (λ a=> ∀w',St c.w0 c.M0 w' M (HD H++c.Hr)->post c B k .normal a w') rest ((d,W.d,u)::L'.d):=z▸y
 exact RQ.call (M9 hg.1) j (MB hx hE2) (λ C w1 b=>(n C w1 M ⟨i.st.ext b,i.f,i.le⟩).mono λ e w' ⟨h1,D⟩=>⟨h1,b.trans D⟩) hg.2 A
end
end Go.Eng
