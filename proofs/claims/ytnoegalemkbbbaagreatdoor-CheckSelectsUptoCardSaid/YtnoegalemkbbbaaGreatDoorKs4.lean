/- Lemmas for the card. -/
import Derived.Test.YtnoegalemkbbbaaGreatDoorKs3
set_option linter.unusedVariables false
set_option linter.unusedSimpArgs false
set_option maxRecDepth 100000
namespace Go.Eng
open Go.RowKit
abbrev I(n:Int):XV:=.v (.int .i64 n)
abbrev Z(k:Nat)(v:XV):Nat×Gd×XV:=(k,.t,v)
def MM:Nat->List XV->XE
 |_,[]=>[]
 |k,v::vs=>(k,.t,v)::MM (k+1) vs
theorem R4: ∀(vs:List XV) (k:Nat),(MM k vs).d=MI k (vs.map XV.d)
 |[],_=>rfl
 |v::vs,k=>by show(k,true,v.d)::XE.d (MM (k+1) vs)=_;rw[R4 vs];rfl
def G8:List Nat->XE->XE
 |[],_=>[]
 |k::ks,L=>match BN L k with
  |some x=>(k,x)::G8 ks L
  |none=>G8 ks L
theorem WH: ∀(b:List Nat) (L:XE) (t:Nat) (g:Gd) (v:XV),BN (G8 b L) t=some (g,v)->BN L t=some (g,v)
 |[],_,_,_,_,h=>by simp[G8,BN]at h
 |k::b,L,t,g,v,h=>by
  unfold G8 at h
  split at h
  ·rename_i x hx
   obtain⟨i,v'⟩:=x
   unfold BN at h
   split at h
   ·rename_i e
    cases h;have:=Nat.eq_of_beq_eq_true e;subst this;exact hx
   ·exact WH b L t g v h
  ·exact WH b L t g v h
theorem bH{a:Act}{N:Nat}{L L':XE}(hs:AZ a N L.d)(h: ∀t g v,BN L' t=some (g,v)->BN L t=some (g,v)):AZ a N L'.d:=
 ⟨hs.size,hs.DX,λ t g v b=>by
  obtain⟨e,v',h1,rfl,rfl⟩:=P8 b
  exact hs.val t _ _ (I0 (h t e v' h1))⟩
def J0:List (Nat×Kn)->List (Nat×Kn)->List (Nat×Kn)
 |[],_=>[]
 |(k,x)::F',F=>match JY F k with
  |some y=>(k,y)::J0 F' F
  |none=>J0 F' F
theorem bI{M:Mem}{F:List (Nat×Kn)}(hF:BI M F): ∀b,BI M (J0 b F)
 |[]=>λ x hx=>by cases hx
 |(k,x)::b=>by
  unfold J0
  split
  ·rename_i y h
   intro z e
   rcases List.mem_cons.1 e with rfl|e
   ·exact hF.get h
   ·exact bI hF b z e
  ·exact bI hF b
def LG:List (Nat×HX)->Nat->Option (HX×List (Nat×HX))
 |[],_=>none
 |(t,d)::H,k=>match Nat.beq t k with
  |true=>some (d,H)
  |false=>match LG H k with
   |some (x,H')=>some (x,(t,d)::H')
   |none=>none
theorem WI: ∀ {H:List (Nat×HX)} {k:Nat} {x:HX} {b:List (Nat×HX)},LG H k=some (x,b)->(x.d::HD b).Perm (HD H)
 |[],_,_,_,h=>by cases h
 |(t,d)::H,k,x,b,h=>by
  unfold LG at h
  split at h
  ·simp only[Option.some.injEq,Prod.mk.injEq]at h;obtain⟨rfl,rfl⟩:=h;exact .refl _
  ·split at h
   ·rename_i i j e
    simp only[Option.some.injEq,Prod.mk.injEq]at h;obtain⟨rfl,rfl⟩:=h
    exact(List.Perm.swap _ _ _).trans ((WI e).cons d.d)
   ·cases h
def J1:List (Nat×HX)->List (Nat×HX)->List (Nat×HX)
 |[],_=>[]
 |(k,_)::H',H=>match LG H k with
  |some (y,H2)=>(k,y)::J1 H' H2
  |none=>J1 H' H
theorem bJ: ∀(b H:List (Nat×HX)),∃R,(HD (J1 b H)++R).Perm (HD H)
 |[],H=>⟨HD H,.refl _⟩
 |(k,d)::b,H=>by
  unfold J1
  split
  ·rename_i y e h
   obtain⟨R,i⟩:=bJ b e
   exact⟨R,(i.cons y.d).trans (WI h)⟩
  ·exact bJ b H
def XS.sub (s' s:XS):Prop:=(∀t g v,BN s'.L t=some (g,v)->BN s.L t=some (g,v))/\(∀M,BI M s.F->BI M s'.F)/\ ∃R,(HD s'.H++R).Perm (HD s.H)
def keys:XE->List Nat
 |[]=>[]
 |(k,_)::L=>k::keys L
theorem XS.MN {s s':XS}(h:(⟨J0 s'.F s.F,J1 s'.H s.H,G8 (keys s'.L) s.L⟩:XS)=s'):s'.sub s:=by
 refine⟨λ t g v b=>?_,λ M hF=>?_,?_⟩
 ·rw[<-h]at b;exact WH _ _ _ _ _ b
 ·have:=bI hF s'.F;rw[<-h];exact this
 ·have:=bJ s'.H s.H;rw[<-h];exact this
theorem HJ.sub {c:Cx}{s s':XS}{a:Act}{w:World}(h:HJ c s a w)(hs:s'.sub s):HJ c s' a w:=by
 obtain⟨h1,M,b,e,i⟩:=h
 obtain⟨j,k,R,l⟩:=hs
 refine⟨bH h1 j,M,?_,k M e,i⟩
 have hp:((HD s'.H++c.Hr)++R).Perm (HD s.H++c.Hr):=by
  refine List.Perm.trans ?_ (l.append_right c.Hr)
  rw[List.append_assoc,List.append_assoc]
  exact(List.perm_append_comm).append_left _
 exact(b.perm hp).drop _ (List.sublist_append_left _ _)
section
variable {c:Cx} {B:Exit->Act->World->Prop} {k k':List Fr} {m:Md} {s s':XS} {O:Prop} {E:List Ck}
theorem A1{b:Bool}{x y:Code}(h:run c.T c.N k m s=⟨k',.br b x y,s',O,E⟩)(e:b=true->XG c B k' (.code x) s')(i:b=false->XG c B k' (.code y) s')(hE:A9 E:=by exact Ad)(hO:O:=by exact Af):XG c B k m s:=by
 refine CL h hE hO λ a w hs=>?_
 cases b
 ·exact i U a w hs
 ·exact e U a w hs
def LJ{σ:Type}(Sf:σ->XS)(I:σ->Prop)(μ:σ->Nat)(g:σ):XS->Prop:=λ t=> ∃g',t=Sf g'/\I g'/\μ g'<μ g
theorem B7{σ:Type}{x:Code}(b:σ->XS)(I:σ->Prop)(μ:σ->Nat)(g0:σ)(h:run c.T c.N k m s=⟨k',.code (.loop x),s',O,E⟩)
  (h0:(⟨J0 (b g0).F s'.F,J1 (b g0).H s'.H,G8 (keys (b g0).L) s'.L⟩:XS)=b g0) (i:I g0)
  (j: ∀g,I g->XG c B (.loop (LJ b I μ g)::k') (.code x) (b g)) (hE:A9 E:=by exact Ad) (hO:O:=by exact Af):XG c B k m s:=by
 refine CL h hE hO λ a w hs=>c.W.loop (λ g a w=>I g/\HJ c (b g) a w) μ g0 ⟨i,hs.sub (XS.MN h0)⟩ λ g a w ⟨hg,hs⟩=>c.W.mono (j g hg a w hs) λ e a w q=>?_
 cases e with
 |normal=>obtain⟨t,⟨l,rfl,h1,n⟩,y⟩:=q;exact⟨l,⟨h1,y⟩,n⟩
 |_=>exact q
theorem AX{σ:Type}{e:σ->XS}{I:σ->Prop}{μ:σ->Nat}{g:σ}(b:σ)(h:run c.T c.N k m s=⟨.loop (LJ e I μ g)::k',.next,s',O,E⟩)
  (h0:(⟨J0 (e b).F s'.F,J1 (e b).H s'.H,G8 (keys (e b).L) s'.L⟩:XS)=e b) (i:I b) (hm:μ b<μ g) (hE:A9 E:=by exact Ad) (hO:O:=by exact Af):XG c B k m s:=
 CL h hE hO λ a w hs=>⟨_,⟨b,rfl,i,hm⟩,hs.sub (XS.MN h0)⟩
def P9:Value->XV
 | .agg ⟨cs⟩=>.ag (E8 cs)
 |x=>.v x
def WJ:List Value->Option (List XV)
 |[]=>some []
 |x::l=>match WJ l with
  |some r=>some (P9 x::r)
  |none=>none
def vx:Value->Option XV
 | .tuple ⟨l⟩=>match WJ l with
  |some r=>some (.tu r)
  |none=>none
 |x=>some (P9 x)
theorem jZ: ∀l:List Value,(E8 l).map XV.d0=l
 |[]=>rfl
 |x::l=>by simp[E8,jZ l,XV.d0]
theorem k0(x:Value):(P9 x).d1=x:=by
 unfold P9
 split
 ·rename_i cs;simp[XV.d1,jZ]
 ·rfl
theorem yZ(x:Value):(P9 x).d=(P9 x).d1:=by
 unfold P9
 split<;>rfl
theorem k6: ∀ {l:List Value} {r:List XV},WJ l=some r->r.map XV.d1=l
 |[],r,h=>by cases h;rfl
 |x::l,r,h=>by
  unfold WJ at h
  split at h
  ·rename_i r' b;cases h;simp[k0,k6 b]
  ·cases h
theorem bK{x:Value}{v:XV}(h:vx x=some v):v.d=x:=by
 unfold vx at h
 split at h
 ·split at h
  ·rename_i r b;cases h;simp[XV.d,k6 b]
  ·cases h
 ·cases h;rw[yZ,k0]
def JH(L:XE)(W:Gd):List Operand->Option (List XV×List Ck)
 |[]=>some ([],[])
 |x::xs=>match BB L W x with
  |some (v,E)=>match JH L W xs with
   |some (vs,E')=>some (v::vs,E++E')
   |none=>none
  |none=>none
theorem LH{L:XE}{W:Gd}: ∀ {xs:List Operand} {vs:List XV} {E:List Ck},JH L W xs=some (vs,E)->A9 E->EE L.d W.d xs (vs.map XV.d)
 |[],vs,E,h,_=>by simp only[JH,Option.some.injEq,Prod.mk.injEq]at h;obtain⟨rfl,rfl⟩:=h;exact .nil
 |x::xs,vs,E,h,hE=>by
  unfold JH at h
  split at h
  ·rename_i v E1 h1
   split at h
   ·rename_i b E2 e
    simp only[Option.some.injEq,Prod.mk.injEq]at h;obtain⟨rfl,rfl⟩:=h
    exact .cons (A7 h1 (hE:=hE.app.1)) (LH e hE.app.2)
   ·cases h
  ·cases h
abbrev CT(P:Program)(f:FuncId):Prop:= ∀args w,(callFunc f args).run P w= .ok (.enter f args) w
theorem AJ{d:Nat}{f:FuncId}{xs:List Operand}{tys:Array TypeId}{ty:TypeId}{ps:String}{af:Array Edge}{gd:Option (Nat×Bool)}{all:Array Oper}{rest:List Oper}{W:Gd}{vs:List XV}{E2:List Ck}{u:Value}{v:XV}
  (h:run c.T c.N k m s=⟨k',.ops all (⟨some d,.call ⟨.value (.func f),⟨xs⟩,tys⟩,ty,ps,af,gd⟩::rest),s',O,E⟩) (l:CT c.P f) (hg:(H3 all s'.L gd,Nat.blt d c.N)=(some W,true)) (hx:JH s'.L W xs=some (vs,E2))
  (n:W.d=true-> ∀w M,CZ c s'.F s'.H w M->Calls c.P f (vs.map XV.d).toArray w (λ e w'=>e= .returned u/\Ext w w')) (q:vx u=some v) (y:XG c B k' (.ops all rest) ⟨s'.F,s'.H,(d,W,v)::s'.L⟩) (hE:A9 E:=by exact Ad) (hO:O:=by exact Af) (hE2:A9 E2:=by exact Ad):XG c B k m s:=by
 refine CL h hE hO λ a w hs=>?_
 obtain⟨h1,M,i⟩:=hs
 simp only[Prod.mk.injEq]at hg
 have e:(⟨xs⟩:Array Operand)=xs.toArray:=rfl
 rw[e]
 refine c.W.one (RL.ZU i.st (LF hg.1) l (LH hx hE2) (λ z=>n z w M i) hg.2 (λ w' j=>?_) a h1)
 intro a' b
 rw[<-bK q]at b
 exact c.W.back (y a' w' ⟨b,M,j,i.f,i.le⟩)
end
class k7 (P:Program)where
 T:TT
 ok:DP P T
inductive Tg where
 |s (k:Nat)
 |b (k:Nat)
 |g
def k8:List (Nat×Tg)->Nat->Option Tg
 |[],_=>none
 |(t,d)::T,k=>match Nat.beq t k with
  |true=>some d
  |false=>k8 T k
def LI(tg:List (Nat×Tg))(L:Env):List Nat->XE->List Ck->Option (XE×List Ck)
 |[],X,E=>some (X,E)
 |k::ks,X,E=>match look L k with
  |none=>LI tg L ks X E
  |some (g,v)=>match k8 tg k with
   |some (.s n)=>LI tg L ks ((k,.t,.sl n v)::X) (.b true g::E)
   |some (.b n)=>match v with
    | .pointer (some ⟨b,o,none⟩)=>LI tg L ks ((k,.t,.bx n b o)::X) (.b true g::E)
    |_=>none
   |some .g=>LI tg L ks ((k,.g g,.v v)::X) E
   |none=>LI tg L ks ((k,.t,.v v)::X) (.b true g::E)
def J2(X:XE)(L:Env):Prop:= ∀k g v,BN X k=some (g,v)->look L k=some (g.d,v.d)
theorem J2.cons {X:XE}{L:Env}(h:J2 X L){k:Nat}{g:Gd}{v:XV}{i:Bool}{v':Value}(hl:look L k=some (i,v'))(hg:g.d=i)(j:v.d=v'):J2 ((k,g,v)::X) L:=by
 intro t g2 v2 b
 unfold BN at b
 split at b
 ·rename_i e;cases b;have:=Nat.eq_of_beq_eq_true e;subst this;rw[hl,hg,j]
 ·exact h t g2 v2 b
theorem J2.put {X:XE}{L:Env}(h:J2 X L){k:Nat}{g:Gd}{v:XV}:J2 ((k,g,v)::X) ((k,g.d,v.d)::L):=by
 intro t g2 v2 b
 unfold BN at b
 split at b
 ·rename_i e;cases b;have:=Nat.eq_of_beq_eq_true e;subst this;rw[MH]
 ·rename_i e
  have:k≠t:=λ i=>by subst i;rw[Nat.beq_refl]at e;cases e
  rw[NK this];exact h t g2 v2 b
theorem WK{q:List (Nat×Tg)}{L:Env}: ∀ {l:List Nat} {X e:XE} {E i:List Ck},LI q L l X E=some (e,i)->A9 i->(A9 E->J2 X L)->J2 e L/\A9 E
 |[],X,e,E,i,h,hE,j=>by simp only[LI,Option.some.injEq,Prod.mk.injEq]at h;obtain⟨rfl,rfl⟩:=h;exact⟨j hE,hE⟩
 |k::l,X,e,E,i,h,hE,j=>by
  unfold LI at h
  split at h
  ·exact WK h hE j
  ·rename_i g v hl
   have go: ∀(x:XV),x.d=v->LI q L l ((k,.t,x)::X) (.b true g::E)=some (e,i)->J2 e L/\A9 E:=by
    intro x hx s
    have:=WK s hE λ hE2=>(j λ c n=>hE2 c (.tail _ n)).cons hl (by have w:g=true:=hE2 _ (.head _) U;rw[w];rfl) hx
    exact⟨this.1,λ c n=>this.2 c (.tail _ n)⟩
   split at h
   ·exact go _ U h
   ·split at h
    ·exact go _ U h
    ·cases h
   ·exact WK h hE λ hE2=>(j hE2).cons hl U U
   ·exact go _ U h
theorem J2.k9 {X:XE}{L:Env}(h:J2 X L){a:Act}{N:Nat}(hs:AZ a N L):AZ a N X.d:=
 ⟨hs.size,hs.DX,λ t g v b=>by
  obtain⟨e,v',h1,rfl,rfl⟩:=P8 b
  exact hs.val t _ _ (h t e v' h1)⟩
def tm:Operand->List Nat->List Nat
 | .tmp k,r=>k::r
 |_,r=>r
def kA:Option Operand->List Nat->List Nat
 |some x,r=>tm x r
 |none,r=>r
def tmp:List (Nat×Operand)->List Nat->List Nat
 |[],r=>r
 |(_,x)::ps,r=>tm x (tmp ps r)
def z6:Op->List Nat->List Nat
 | .move x,r=>tm x r
 | .assign x,r=>tm x r
 | .pick c x y,r=>tm c (tm x (tm y r))
 | .binOp _ _ x y _,r=>tm x (tm y r)
 | .unOp _ _ x,r=>tm x r
 | .convert _ _ x,r=>tm x r
 | .slice _ x lo hi _,r=>tm x (kA lo (kA hi r))
 | .fieldAddr _ x _,r=>tm x r
 | .field _ x _,r=>tm x r
 | .indexAddr _ x y,r=>tm x (tm y r)
 | .index _ x y,r=>tm x (tm y r)
 | .load _ x,r=>tm x r
 | .extract x _,r=>tm x r
 | .build _ ⟨ps⟩,r=>tmp ps r
 | .call ⟨_,⟨[x]⟩,_⟩,r=>tm x r
 |_,r=>r
def z7(all:Array Oper)(gd:Option (Nat×Bool))(r:List Nat):List Nat:=
 match gd with
 |none=>r
 |some (j,_)=>match nth all.toList j with
  |some o=>match o.dst with
   |some d=>d::r
   |none=>r
  |none=>r
def kB(all:Array Oper):Nat->List Oper->List Nat
 |n+1,o::l=>z6 o.op (z7 all o.guard (kB all n l))
 |_,_=>[]
def WL:List XV->Option (List Value)
 |[]=>some []
 |x::l=>match WL l with
  |some r=>match x with
   | .v u=>some (u::r)
   | .sl _ u=>some (u::r)
   |_=>none
  |none=>none
theorem kC: ∀ {l:List XV} {r:List Value},WL l=some r->l.map XV.d0=r
 |[],r,h=>by cases h;rfl
 |x::l,r,h=>by
  unfold WL at h
  split at h
  ·rename_i r' b
   split at h<;>first|(cases h;simp[kC b,XV.d0])|cases h
  ·cases h
def dV:XV->Option Value
 | .v u=>some u
 | .sl _ u=>some u
 | .el _ x sz i j=>match j with
  |0=>some (.pointer (some ⟨sb x,so x+i.toNat*sz,none⟩))
  |j+1=>some (.pointer (some ⟨sb x,so x+i.toNat*sz+(j+1),none⟩))
 | .bx _ b o=>some (.pointer (some ⟨b,o,none⟩))
 | .ag cs=>match WL cs with
  |some r=>some (.agg ⟨r⟩)
  |none=>none
 | .tu _=>none
theorem z8{x:XV}{v:Value}(h:dV x=some v):x.d=v:=by
 cases x with
 |v u=>cases h;rfl
 |sl k u=>cases h;rfl
 |el k u sz i j=>cases j<;>(cases h;rfl)
 |bx k b o=>cases h;rfl
 |ag cs=>
  simp only[dV]at h
  split at h
  ·rename_i r e;cases h;simp[XV.d,XV.d1,kC e]
  ·cases h
 |tu vs=>cases h
def dE(
    L:Env):Nat->XE->Option Env
 |0,_=>some L
 |n+1,(k,g,v)::X=>match dE L n X with
  |some L'=>match dV v with
   |some u=>match g with
    | .t=>some ((k,true,u)::L')
    | .g b=>some ((k,b,u)::L')
   |none=>none
  |none=>none
 |_,_=>none
theorem kD{L:Env}: ∀ {n:Nat} {X:XE} {L':Env},dE L n X=some L'->(XE.d (X.take n))++L=L'
 |0,X,L',h=>by simp only[dE,Option.some.injEq]at h;subst h;rfl
 |n+1,[],L',h=>by cases h
 |n+1,(k,g,v)::X,L',h=>by
  unfold dE at h
  split at h
  ·rename_i e b
   split at h
   ·rename_i u hu
    show(k,g.d,v.d)::(XE.d (X.take n)++L)=L'
    rw[kD b,z8 hu]
    cases g<;>(cases h;rfl)
   ·cases h
  ·cases h
structure RR where
 l:List Oper
 L:Env
 O:Prop
 E:List Ck
def U5(W:Gd):List Prop->Prop->(Prop->Option RR)->Option RR
 |[],O,K=>K O
 |p::ps,O,K=>match W with
  | .t=>U5 W ps (p/\O) K
  | .g b=>U5 W ps ((b=false\/p)/\O) K
theorem bL{W:Gd}{K:Prop->Option RR}: ∀ {ps:List Prop} {O:Prop},∃i,U5 W ps O K=K i/\(i->(W.d=true->IF ps)/\O)
 |[],O=>⟨O,rfl,λ h=>⟨λ _=>trivial,h⟩⟩
 |p::ps,O=>by
  unfold U5
  cases W with
  |t=>
   obtain⟨i,h1,e⟩:=bL (W:=.t) (K:=K) (ps:=ps) (O:=p/\O)
   exact⟨i,h1,λ h=>⟨λ j=>⟨(e h).2.1,(e h).1 j⟩,(e h).2.2⟩⟩
  |g b=>
   obtain⟨i,h1,e⟩:=bL (W:=.g b) (K:=K) (ps:=ps) (O:=(b=false\/p)/\O)
   exact⟨i,h1,λ h=>⟨λ j=>⟨(e h).2.1.resolve_left (by rw[show b=true from j];decide),(e h).1 j⟩,(e h).2.2⟩⟩
def bM(
     all:Array Oper) (L:XE) (gd:Option (Nat×Bool)):Option Gd:=
 match gd with
 |none=>some .t
 |some (
     j,want)=>match nth all.toList j with
  |some o=>match o.dst with
   |some d=>match BN L d with
    |some (g,v)=>match LD v with
     |some b=>match want with
      |true=>match g with
       | .t=>some (.g b)
       | .g a=>some (.g (a&&b))
      |false=>match g with
       | .t=>some (.g (!b))
       | .g a=>some (.g (a&& !b))
     |none=>none
    |none=>none
   |none=>none
  |none=>none
theorem zA{all:Array Oper}{L:XE}{gd:Option (Nat×Bool)}{W:Gd}(h:bM all L gd=some W):DU all L.d gd W.d:=by
 unfold bM at h
 split at h
 ·cases h;exact .none
 ·rename_i j want
  split at h
  ·rename_i o ho
   split at h
   ·rename_i d hd
    split at h
    ·rename_i g v hl
     split at h
     ·rename_i b k
      have:=NS k;subst this
      have e:=I0 hl
      have i:(all[j]?).bind (·.dst)=some d:=by
       rw[I1]at ho
       simp only[Array.getElem?_toList]at ho
       rw[ho];exact hd
      split at h
      ·split at h<;>cases h
       ·exact .pos i e
       ·exact .iH i e
      ·split at h<;>cases h
       ·exact .neg i e
       ·exact .iI i e
     ·cases h
    ·cases h
   ·cases h
  ·cases h
def runs(
     T:TT) (N:Nat) (F:List (Nat×Kn)) (H:List (Nat×HX)) (all:Array Oper) (L:Env):Nat->Nat->List Oper->XE->Prop->List Ck->Option RR
 |0,i,l,X,O,E=>match dE L i X with
  |some L'=>some ⟨l,L',O,E⟩
  |none=>none
 |n+1,i,l,X,O,E=>match l with
  |⟨some d,op,ty,ps,af,gd⟩::rest=>match bM all X gd with
   |some W=>match QZ T F H X W op with
    |some (v,p,E')=>match Nat.blt d N with
     |true=>U5 W p O λ O'=>runs T N F H all L n (i+1) rest ((d,W,v)::X) O' (E'++E)
     |false=>none
    |none=>none
   |none=>none
  |_=>none
theorem PV.rep {P:Program}{C:World->Prop}{X:XE}{L:Env}{W:Bool}{o:Oper}{v:Value}(h:PV P C X.d W o v)(b:J2 X L):PV P C L W o v:=λ a N hs e w hw=>h a N (b.k9 hs) e w hw
theorem kE{P:Program}{T:TT}(hT:DP P T){N:Nat}{F:List (Nat×Kn)}{H:List (Nat×HX)}{Hr:List HO}{w0 w:World}{M0 M:Mem}{C:World->Prop}{G:List Oper->Env->Prop}{all:Array Oper}{L:Env}(hF:BI M F)(hS:St w0 M0 w M (HD H++Hr))(hC: ∀w',C w'->Ext w w')
  (s: ∀ {d:Nat} {op:Op} {ty:TypeId} {ps:String} {af:Array Edge} {gd:Option (Nat×Bool)} {W:Bool} {v:Value} {rest:List Oper} {L:Env},DU all L gd W->PV P C L W ⟨some d,op,ty,ps,af,gd⟩ v->Nat.blt d N=true->G rest ((d,W,v)::L)->G (⟨some d,op,ty,ps,af,gd⟩::rest) L):
  ∀ {n i:Nat} {l:List Oper} {X:XE} {O:Prop} {E:List Ck} {r:RR},runs T N F H all L n i l X O E=some r->r.O->A9 r.E->G r.l r.L->(A9 E->J2 X ((XE.d (X.take i))++L))->G l ((XE.d (X.take i))++L)/\O/\A9 E
 |0,i,l,X,O,E,r,h,hO,hE,e,j=>by
  unfold runs at h
  split at h
  ·rename_i L' z
   cases h
   rw[kD z];exact⟨e,hO,hE⟩
  ·cases h
 |n+1,i,l,X,O,E,r,h,hO,hE,e,j=>by
  unfold runs at h
  split at h
  ·rename_i d op ty ps af gd rest
   split at h
   ·rename_i W A
    split at h
    ·rename_i v p B D
     split at h
     ·rename_i hd
      obtain⟨y,h1,J⟩:=bL (W:=W) (K:=λ y=>runs T N F H all L n (i+1) rest ((d,W,v)::X) y (B++E)) (ps:=p) (O:=O)
      rw[h1]at h
      obtain⟨r1,Q,k⟩:=kE hT hF hS hC s h hO hE e (λ hE2=>(j (A9.app hE2).2).put)
      obtain⟨hp,q⟩:=J Q
      have b:=j (A9.app k).2
      exact⟨s (λ a N hs=>zA A a N (b.k9 hs)) ((TW hT hF hS hC D (A9.app k).1 hp).rep b) hd r1,q,(A9.app k).2⟩
     ·cases h
    ·cases h
   ·cases h
  ·cases h
def hx:Nat->List HO->Option (List (Nat×HX)×List HO)
 |0,l=>some ([],l)
 |n+1,x::l=>match hx n l with
  |some (H,Hr)=>match x with
   | .box b cs t=>some ((n,.box b (E8 cs) t)::H,Hr)
   |y=>some ((n,.ho y)::H,Hr)
  |none=>none
 |_,_=>none
theorem kF: ∀l:List Value,(E8 l).map XV.d0=l
 |[]=>rfl
 |x::l=>by simp[E8,kF l,XV.d0]
theorem bN: ∀ {n:Nat} {l:List HO} {H:List (Nat×HX)} {Hr:List HO},hx n l=some (H,Hr)->HD H++Hr=l
 |0,l,H,Hr,h=>by simp only[hx,Option.some.injEq,Prod.mk.injEq]at h;obtain⟨rfl,rfl⟩:=h;rfl
 |n+1,[],H,Hr,h=>by cases h
 |n+1,x::l,H,Hr,h=>by
  unfold hx at h
  split at h
  ·rename_i e b i
   split at h
   ·simp only[Option.some.injEq,Prod.mk.injEq]at h;obtain⟨rfl,rfl⟩:=h
    show(HX.box _ _ _).d::(HD e++b)=_
    rw[bN i];simp[HX.d,kF]
   ·simp only[Option.some.injEq,Prod.mk.injEq]at h;obtain⟨rfl,rfl⟩:=h
    show(HX.ho _).d::(HD e++b)=_
    rw[bN i];rfl
  ·cases h
def PA(T:TT)(N:Nat)(F:List (Nat×Kn))(m:Nat)(Hs:List HO)(all:Array Oper)(tg:List (Nat×Tg))(n:Nat)(l:List Oper)(L:Env):Option RR:=
 match hx m Hs with
 |some (H,_)=>match LI tg L (kB all n l) [] []with
  |some (X,E)=>runs T N F H all L n 0 l X ((0:Int)=0) E
  |none=>none
 |none=>none
theorem bO{P:Program}{T:TT}(hT:DP P T){N:Nat}{F:List (Nat×Kn)}{m n:Nat}{Hs:List HO}{w0 w:World}{M0 M:Mem}{C:World->Prop}{G:List Oper->Env->Prop}{all:Array Oper}{e:List (Nat×Tg)}{l l':List Oper}{L L':Env}{O:Prop}{E:List Ck}(hF:BI M F)(hS:St w0 M0 w M Hs)(hC: ∀w',C w'->Ext w w')
  (i: ∀ {d:Nat} {op:Op} {ty:TypeId} {ps:String} {af:Array Edge} {gd:Option (Nat×Bool)} {W:Bool} {v:Value} {rest:List Oper} {L:Env},DU all L gd W->PV P C L W ⟨some d,op,ty,ps,af,gd⟩ v->Nat.blt d N=true->G rest ((d,W,v)::L)->G (⟨some d,op,ty,ps,af,gd⟩::rest) L)
  (h:PA T N F m Hs all e n l L=some ⟨l',L',O,E⟩) (hE:E.map Ck.diag=E) (hO:O) (j:G l' L'):G l L:=by
 unfold PA at h
 split at h
 ·rename_i H Hr hH
  split at h
  ·rename_i s E2 q
   have b:A9 []->J2 [] L:=λ _ k g v h=>by cases h
   obtain⟨r1,y,z⟩:=kE (H:=H) (Hr:=Hr) hT hF (by rw[bN hH];exact hS) hC i h hO (AG hE) j (λ hE2=>(WK q hE2 b).1)
   exact r1
  ·cases h
 ·cases h
section
variable {P:Program} [tab:k7 P] {N:Nat} {w0 w:World} {M0 M:Mem} {Q:Exit->Act->World->Prop} {all:Array Oper} {l l':List Oper} {L L':Env} {O:Prop} {E:List Ck} {F:List (Nat×Kn)} {Hs:List HO} {C:World->Prop} {post:Act->Prop}
theorem RL.x (n m:Nat)(b:List (Nat×Tg))(hF:BI M F)(hS:St w0 M0 w M Hs)(h:PA tab.T N F m Hs all b n l L=some ⟨l',L',O,E⟩)(hE:E.map Ck.diag=E)(hO:O)(e:RL P all Q N l' L' w):RL P all Q N l L w:=
 bO (G:=λ l L=>RL P all Q N l L w) tab.ok hF hS GZ (λ h1 i j k=>RL.v h1 i j k) h hE hO e
theorem BE(w:World):St w nM w nM []:=Aj ⟨λ _ _ _ h=>by cases h⟩
theorem RL.o (n:Nat)(b:List (Nat×Tg))(h:PA tab.T N [] 0 [] all b n l L=some ⟨l',L',O,E⟩)(hE:E.map Ck.diag=E)(hO:O)(e:RL P all Q N l' L' w):RL P all Q N l L w:=RL.x n 0 b A3 (BE w) h hE hO e
theorem RL.p (n:Nat)(b:List (Nat×Tg))(h:PA tab.T N [] 0 [] all b n l L=some ⟨l',L',(0:Int)=0,E⟩)(hE:E.map Ck.diag=E)(e:RL P all Q N l' L' w):RL P all Q N l L w:=RL.o n b h hE U e
theorem RQ.x (n m:Nat)(b:List (Nat×Tg))(hF:BI M F)(hS:St w0 M0 w M Hs)(h:PA tab.T N F m Hs all b n l L=some ⟨l',L',O,E⟩)(hE:E.map Ck.diag=E)(hO:O)(e:RQ P all (λ w'=>Ext w w') N post l' L'):RQ P all (λ w'=>Ext w w') N post l L:=
 bO (G:=λ l L=>RQ P all (λ w'=>Ext w w') N post l L) tab.ok hF hS (λ _ h=>h) (λ h1 i j k=>RQ.v h1 i j k) h hE hO e
theorem RS.x {w1:World}(n m:Nat)(b:List (Nat×Tg))(hF:BI M F)(hS:St w0 M0 w1 M Hs)(h:PA tab.T N F m Hs all b n l L=some ⟨l',L',O,E⟩)(hE:E.map Ck.diag=E)(hO:O)(e:RS P all w1 N post l' L'):RS P all w1 N post l L:=
 bO (G:=λ l L=>RS P all w1 N post l L) tab.ok hF hS GZ (λ h1 i j k=>RS.v h1 i j k) h hE hO e
end
theorem AH{P:Program}{N:Nat}{w0 w:World}{M0 M:Mem}{Hr:List HO}{T:TT}(hT:DP P T){f:FuncId}{fn:Func}{x:Code}{R:Ending->World->Prop}(b:P.funcs[f]? =some fn)(e:fn.body=some x)(i:fn.ntmps=N)
  (F:List (Nat×Kn)) (H:List (Nat×HX)) (vs:List XV) (hl:Nat.ble vs.length N=true) (hS:St w0 M0 w M (HD H++Hr)) (hF:BI M F)
  (h: ∀B,Ends P fn R B->XG ⟨P,N,w0,M0,M,Hr,T,hT,.wide P⟩ B [] (.code x) ⟨F,H,MM 0 vs⟩) {av:List Value} (j:vs.map XV.d=av):Calls P f av.toArray w R:=by
 subst j
 refine CW.NQ b e i (by rw[List.length_map];exact Nat.le_of_ble_eq_true hl) λ Q k a hs=>?_
 have:=h Q k a w ⟨by rw[<-R4]at hs;exact hs,M,hS,hF,Mem.le.refl _⟩
 exact this
theorem zB{α:Type}(f:α->List Value)(sz:Nat)(h: ∀x,(f x).length=sz)(l:List α)(a b j:Nat)(i:a<=b)(k:b<=l.length)(n:j<(b-a)*sz):
  (l.flatMap f)[a*sz+j]? =(((l.drop a).take (b-a)).flatMap f)[j]?:=by
 have e:l=l.take a++((l.drop a).take (b-a)++(l.drop a).drop (b-a)):=by rw[List.take_append_drop,List.take_append_drop]
 have e2:l.flatMap f=(l.take a).flatMap f++(((l.drop a).take (b-a)).flatMap f++((l.drop a).drop (b-a)).flatMap f):=by
  conv=>lhs;rw[e]
  rw[List.flatMap_append,List.flatMap_append]
 have h1:((l.take a).flatMap f).length=a*sz:=by rw[D5 f sz h,List.length_take,Nat.min_eq_left Aa]
 have q:(((l.drop a).take (b-a)).flatMap f).length=(b-a)*sz:=by rw[D5 f sz h,List.length_take,List.length_drop,Nat.min_eq_left Aa]
 rw[e2,List.getElem?_append_right Aa,h1,show a*sz+j-a*sz=j from by omega,List.getElem?_append_left Aa]
theorem bP{α:Type}{f:α->List Value}{M:Mem}{sz:Nat}{v:Value}{l:List α}(h:Sl M sz l.length v (l.flatMap f))(i: ∀x,(f x).length=sz){a b:Int}(h0:0<=a)(h1:a<=b)(q:b<=len l):
  ∃p cap,v= .slice p l.length cap/\l.length<=cap/\Sl M sz (Eng.sub l a b).length (sliced p a.toNat b.toNat cap sz) ((Eng.sub l a b).flatMap f):=by
 obtain⟨p,cap,s,w,hm,hp⟩:=h.val
 refine⟨p,cap,s,w,?_⟩
 unfold len at q
 have hl:(Eng.sub l a b).length=b.toNat-a.toNat:=by unfold Eng.sub;rw[List.length_take,List.length_drop];omega
 refine⟨by rw[D5 f sz i],_,_,by unfold sliced;rw[hl],by rw[hl];omega,Aa,λ y=>?_⟩
 rw[hl]at y
 obtain⟨z,o,k,e⟩:=hp Aa
 refine⟨z,o+a.toNat*sz,by rw[if_neg Aa,k,Option.map_some,F1],λ j n=>?_⟩
 rw[D5 f sz i,hl]at n
 have hlen:a.toNat*sz+j<(l.flatMap f).length:=by
  rw[D5 f sz i]
  have:=Nat.mul_le_mul_right sz (show a.toNat+(b.toNat-a.toNat)<=l.length by omega)
  rw[Nat.add_mul]at this;omega
 rw[Nat.add_assoc,e _ hlen]
 exact zB f sz i l a.toNat b.toNat j Aa Aa n
section sl
variable {P:Program} {α:Type} {f:α->List Value} {M:Mem} {sz:Nat} {v:Value} {l:List α} {t e:TypeId}
theorem J3(b:P.underlying t=some (.slice e)):P.elem t=e:=by unfold Program.elem;rw[b]
theorem zC(h:Sl M sz l.length v (l.flatMap f))(q: ∀x,(f x).length=sz)(j:P.underlying t=some (.slice e))(hs: ∀w,(sizeOf e).run P w= .ok sz w)(a b:Int)(s:0<=a/\a<=b/\b<=len l):
  ∃v',Sl M sz (Eng.sub l a b).length v' ((Eng.sub l a b).flatMap f)/\ ∀(k k':IntKind) w,(Instr.sliceAt t v (some (.int k a)) (some (.int k' b)) none).run P w= .ok v' w:=by
 obtain⟨h0,h1,n⟩:=s
 obtain⟨p,cap,y,z,hS⟩:=bP h q h0 h1 n
 have i:P.underlying t=some (.slice (P.elem t)):=by rw[J3 j];exact j
 refine⟨_,hS,λ k k' w=>?_⟩
 rw[y,run_sliceAt_slice w t _ _ _ _ i,run_slice_lh w t p _ cap i k k' a b h0 h1 (by unfold len at n;omega),J3 j,hs]
 rfl
theorem zD(h:Sl M sz l.length v (l.flatMap f))(n: ∀x,(f x).length=sz)(j:P.underlying t=some (.slice e))(hs: ∀w,(sizeOf e).run P w= .ok sz w)(a b:Int)(q:0<=a/\a<=b/\b<=len l)(s:a=0:=by rfl):
  ∃v',Sl M sz (Eng.sub l a b).length v' ((Eng.sub l a b).flatMap f)/\ ∀(k':IntKind) w,(Instr.sliceAt t v none (some (.int k' b)) none).run P w= .ok v' w:=by
 subst s
 obtain⟨h0,h1,k⟩:=q
 obtain⟨p,cap,y,z,hS⟩:=bP h n h0 h1 k
 have i:P.underlying t=some (.slice (P.elem t)):=by rw[J3 j];exact j
 refine⟨_,hS,λ k' w=>?_⟩
 rw[y,run_sliceAt_slice w t _ _ _ _ i,run_slice_h w t p _ cap i k' b h1 (by unfold len at k;omega),J3 j,hs]
 rfl
theorem zE(h:Sl M sz l.length v (l.flatMap f))(n: ∀x,(f x).length=sz)(j:P.underlying t=some (.slice e))(hs: ∀w,(sizeOf e).run P w= .ok sz w)(a b:Int)(q:0<=a/\a<=b/\b<=len l)(s:b=len l:=by rfl):
  ∃v',Sl M sz (Eng.sub l a b).length v' ((Eng.sub l a b).flatMap f)/\ ∀(k:IntKind) w,(Instr.sliceAt t v (some (.int k a)) none none).run P w= .ok v' w:=by
 subst s
 obtain⟨h0,h1,y⟩:=q
 obtain⟨p,cap,z,A,hS⟩:=bP h n h0 h1 y
 have i:P.underlying t=some (.slice (P.elem t)):=by rw[J3 j];exact j
 refine⟨_,hS,λ k w=>?_⟩
 rw[z,run_sliceAt_slice w t _ _ _ _ i,run_slice_l w t p _ cap i k a h0 h1,J3 j,hs]
 rfl
variable {C:World->Prop} {L:Env} {W:Bool} {d:Option Tmp} {ty:TypeId} {ps:String} {af:Array Edge} {gd:Option (Nat×Bool)} {x y z:Operand} {v':Value} {k k':IntKind} {a b:Int}
theorem PV.kG (hx:AA L W x v)(h:AA L W y (.int k a))(i:AA L W z (.int k' b))(j: ∀(k k':IntKind) w,(Instr.sliceAt t v (some (.int k a)) (some (.int k' b)) none).run P w= .ok v' w):PV P C L W ⟨d,.slice t x (some y) (some z) none,ty,ps,af,gd⟩ v':=by
 intro ac N hs e w _
 simp only[execOp,hx ac N hs e,Option.map_some,Option.map_none,h ac N hs e,i ac N hs e]
 rw[Sem.run_bind,j];rfl
theorem PV.kH (hx:AA L W x v)(h:AA L W z (.int k' b))(i: ∀(k':IntKind) w,(Instr.sliceAt t v none (some (.int k' b)) none).run P w= .ok v' w):PV P C L W ⟨d,.slice t x none (some z) none,ty,ps,af,gd⟩ v':=by
 intro ac N hs e w _
 simp only[execOp,hx ac N hs e,Option.map_some,Option.map_none,h ac N hs e]
 rw[Sem.run_bind,i];rfl
theorem PV.kI (hx:AA L W x v)(e:AA L W y (.int k a))(h: ∀(k:IntKind) w,(Instr.sliceAt t v (some (.int k a)) none none).run P w= .ok v' w):PV P C L W ⟨d,.slice t x (some y) none none,ty,ps,af,gd⟩ v':=by
 intro ac N hs b w _
 simp only[execOp,hx ac N hs b,Option.map_some,Option.map_none,e ac N hs b]
 rw[Sem.run_bind,h];rfl
end sl
inductive PR (α:Type)where
 |ok (x:α) (j:Int)
 |er (e p:Int)
abbrev PB(T:TypeId)(e p:Int):PanicEntry:= { v:=.iface T (.agg #[i64 e,i64 p]),recovered:=false}
def kJ{α:Type}(w0:World)(M0 M:Mem)(Rs:List HO)(T:TypeId)(F:α->Int->Value->Mem->World->Prop)(r:PR α):Ending->World->Prop:=λ e w'=>
 match r with
 | .ok x j=> ∃v M',e= .returned v/\F x j v M' w'/\M.le M'
 | .er ec p=> ∃M',e= .panicked [PB T ec p]/\St w0 M0 w' M' Rs/\M.le M'
section
variable {P:Program} {α:Type} {w0 w:World} {M0 M M':Mem} {Rs:List HO} {T:TypeId} {F:α->Int->Value->Mem->World->Prop} {r:PR α}
theorem kJ.ok {x:α}{j:Int}{v:Value}(h:r= .ok x j)(b:F x j v M' w)(hle:M.le M'):kJ w0 M0 M Rs T F r (.returned v) w:=by
 subst h;exact⟨v,M',rfl,b,hle⟩
theorem Ends.p {fn:Func}{R:Ending->World->Prop}{Q:Exit->Act->World->Prop}{N:Nat}{L:Env}{b:List PanicEntry}(E:Ends P fn R Q)(h:R (.panicked b) w): ∀a,AZ a N L->Q (.panic b) a w:=λ a hs=>E.all _ _ _ ⟨hs.DX,h⟩
variable {ops:Array Oper} {Q:Exit->Act->World->Prop} {N:Nat} {rest:List Oper} {L:Env} {ty:TypeId} {ps:String} {af:Array Edge} {tys:Array TypeId}
theorem RL.panic {d:Option Tmp}{x:Operand}{t:TypeId}{v:Value}(hx:AA L true x (.iface t v))(h: ∀a,AZ a N L->Q (.panic [{ v:=.iface t v,recovered:=false}]) a w):RL P ops Q N (⟨d,.panic x,ty,ps,af,none⟩::rest) L w:=by
 intro a hs
 refine wpList_plain U λ K b=>?_
 have key:(execOp a.eval ⟨d,.panic x,ty,ps,af,none⟩).run P w= .halt (.panic (.iface t v)) w:=by
  simp only[execOp,hx a N hs U];rw[Sem.run_bind,run_panic_iface];rfl
 simp only[Oper.wp,key,Oper.upon_panic]
 exact h a hs
end
section
variable {c:Cx} {B:Exit->Act->World->Prop} {k k':List Fr} {m:Md} {s s':XS} {O:Prop} {E:List Ck} {all:Array Oper} {rest:List Oper} {d:Nat} {ty:TypeId} {ps:String} {af:Array Edge}
theorem DW(kk:Nat)(K:Kn)(h: ∀w M,CZ c s.F s.H w M->K.ok M)(e:XG c B k m ⟨(kk,K)::s.F,s.H,s.L⟩):XG c B k m s:=λ a w ⟨h1,M,b⟩=>e a w ⟨h1,M,b.st,AD (h w M b) b.f,b.le⟩
theorem MO(t kk:Nat){v:Value}{g:Gd}(hl:BN s.L t=some (g,.v v))(h:XG c B k m ⟨s.F,s.H,(t,g,.sl kk v)::s.L⟩):XG c B k m s:=λ a w ⟨h1,M,i⟩=>h a w ⟨⟨h1.size,h1.DX,λ e j v' l=>by
 have b:look ((t,g.d,v)::s.L.d) e=some (j,v'):=l
 by_cases he:t=e
 ·subst he;rw[MH]at b;cases b;exact h1.val _ _ _ (I0 hl)
 ·rw[NK he]at b;exact h1.val _ _ _ b⟩,M,i⟩
theorem DC{o:Oper}(h:run c.T c.N k m s=⟨k',.ops all (o::rest),s',O,E⟩)(b: ∀w M,CZ c s'.F s'.H w M->RL c.P all (Exit.then (c.W.list all (post c B k') rest) (post c B k')) c.N [o] s'.L.d w)(hE:A9 E:=by exact Ad)(hO:O:=by exact Af):XG c B k m s:=
 CL h hE hO λ a w ⟨h1,M,e⟩=>c.W.one (b w M e a h1)
theorem DD{F:List (Nat×Kn)}{H:List (Nat×HX)}{L:XE}{L':Env}{l:List Oper}{w:World}{M:Mem}(h:XG c B k (.ops all l) ⟨F,H,L⟩)(b:CZ c F H w M)(e:L.d=L'):RL c.P all (Exit.then (c.W.list all (post c B k) l) (post c B k)) c.N [] L' w:=
 λ a hs=>c.W.back (h a w ⟨by rw[e];exact hs,M,b⟩)
theorem AR{op:Op}{gd:Option (Nat×Bool)}{W:Gd}(v:XV)(h:run c.T c.N k m s=⟨k',.ops all (⟨some d,op,ty,ps,af,gd⟩::rest),s',O,E⟩)(hg:(H3 all s'.L gd,Nat.blt d c.N)=(some W,true))
  (hp: ∀w M,CZ c s'.F s'.H w M->PV c.P (· =w) s'.L.d W.d ⟨some d,op,ty,ps,af,gd⟩ v.d) (e:XG c B k' (.ops all rest) ⟨s'.F,s'.H,(d,W,v)::s'.L⟩) (hE:A9 E:=by exact Ad) (hO:O:=by exact Af):XG c B k m s:=by
 simp only[Prod.mk.injEq]at hg
 exact DC h (hE:=hE) (hO:=hO) λ w M b=>RL.v (LF hg.1) (hp w M b) hg.2 (DD e b U)
theorem B9(kk:Nat){t:TypeId}{z:Value}{cs:List XV}(h:run c.T c.N k m s=⟨k',.ops all (⟨some d,.alloc t,ty,ps,af,none⟩::rest),s',O,E⟩)(i: ∀w,(zeroValue t).run c.P w= .ok z w)(hd:(Nat.blt d c.N,QW z.cells.toList)=(true,some cs))
  (j: ∀b,XG c B k' (.ops all rest) ⟨s'.F,(kk,.box b cs t)::s'.H,(d,.t,.bx kk b 0)::s'.L⟩) (hE:A9 E:=by exact Ad) (hO:O:=by exact Af):XG c B k m s:=by
 simp only[Prod.mk.injEq]at hd
 refine DC h (hE:=hE) (hO:=hO) λ w M e=>RL.alloc e.st i hd.1 λ w' b hS=>DD (j b) ⟨?_,e.f,e.le⟩ U
 show St _ _ _ _ (.box b (cs.map XV.d0) t::(HD s'.H++c.Hr))
 rw[W7 _ _ hd.2];exact hS
theorem BM(kk:Nat){t:TypeId}{x:Operand}{v:XV}{cs:List XV}{E1 E2:List Ck}(h:run c.T c.N k m s=⟨k',.ops all (⟨some d,.box t x,ty,ps,af,none⟩::rest),s',O,E⟩)(hx:BB s'.L .t x=some (v,E1))(hd:(Nat.blt d c.N,cellsOf v,U2 s'.F s'.H cs)=(true,some cs,some E2))
  (n: ∀b,XG c B k' (.ops all rest) ⟨s'.F,(kk,.box b cs t)::s'.H,(d,.t,.bx kk b 0)::s'.L⟩) (hE:A9 E:=by exact Ad) (hO:O:=by exact Af) (hE1:A9 (E1++E2):=by exact Ad):XG c B k m s:=by
 simp only[Prod.mk.injEq]at hd
 refine DC h (hE:=hE) (hO:=hO) λ w M j=>RL.box j.st (A7 hx (hE:=hE1.app.1)) hd.1 λ w' b hS=>DD (n b) ⟨?_,j.f,j.le⟩ U
 have l:=R3 j.f j.st hd.2.2 hE1.app.2
 have i:v.d.cells.toList=cs.map XV.d0:=by
  rcases jY hd.2.1 with q|⟨u,rfl,rfl,y,z⟩
  ·exact q
  ·have e:v.d=v.d0:=by cases v<;>first|rfl|(exact absurd rfl (y _))|(exact absurd rfl (z _))
   rw[e,WC (l _ (by simp))];rfl
 show St _ _ _ _ (.box b (cs.map XV.d0) t::(HD s'.H++c.Hr))
 rw[<-i];exact hS
theorem U6{α:Type}[Inhabited α](kk t:Nat)(e:TypeId)(sz:Nat)(f:α->List Value)(n: ∀x,(f x).length=sz)(hl:BN s.L t=some (.t,.v (.slice none 0 0)))
  (q:XG c B k m ⟨(kk,kn (.slice none 0 0) sz ([]:List α) f)::s.F,(kk,.ho (.own e sz (.slice none 0 0) ([]:List α).length (([]:List α).flatMap f)))::s.H,(t,.t,.sl kk (.slice none 0 0))::s.L⟩):XG c B k m s:=by
 intro a w ⟨h1,M,h⟩
 refine q a w ⟨⟨h1.size,h1.DX,λ j g v l=>?_⟩,M,h.st.iU e sz,AD ⟨?_,n,trivial⟩ h.f,h.le⟩
 ·have i:=I0 hl
  by_cases he:t=j
  ·subst he
   have b:look ((t,true,Value.slice none 0 0)::s.L.d) t=some (g,v):=l
   rw[MH]at b;cases b
   exact h1.val _ _ _ i
  ·have b:look ((t,true,Value.slice none 0 0)::s.L.d) j=some (g,v):=l
   rw[NK he]at b
   exact h1.val _ _ _ b
 ·exact Sl.nil M sz
def R5(L:XE):List (Nat×Operand)->Option (List (Nat×XV)×List Ck)
 |[]=>some ([],[])
 |(i,x)::xs=>match BB L .t x with
  |some (v,E)=>match R5 L xs with
   |some (vs,E')=>some ((i,v)::vs,E++E')
   |none=>none
  |none=>none
theorem bQ{L:XE}: ∀ {xs:List (Nat×Operand)} {vs:List (Nat×XV)} {E:List Ck},R5 L xs=some (vs,E)->A9 E->GN L.d true xs (vs.map λ x=>(x.1,x.2.d))
 |[],vs,E,h,_=>by simp only[R5,Option.some.injEq,Prod.mk.injEq]at h;obtain⟨rfl,rfl⟩:=h;exact .nil
 |(i,x)::xs,vs,E,h,hE=>by
  unfold R5 at h
  split at h
  ·rename_i v E1 h1
   split at h
   ·rename_i b E2 e
    simp only[Option.some.injEq,Prod.mk.injEq]at h;obtain⟨rfl,rfl⟩:=h
    exact .cons (A7 h1 (hE:=hE.app.1)) (bQ e hE.app.2)
   ·cases h
  ·cases h
theorem BH{α:Type}[Inhabited α](kk:Nat)(l:List α)(f:α->List Value)(sz:Nat)(e:TypeId){t:TypeId}{n:Nat}{xs:List (Nat×Operand)}{vs:List (Nat×XV)}{E1:List Ck}(q: ∀x,(f x).length=sz)(h:run c.T c.N k m s=⟨k',.ops all (⟨some d,.buildSlice t n ⟨xs⟩,ty,ps,af,none⟩::rest),s',O,E⟩)
  (hx:R5 s'.L xs=some (vs,E1)) (y: ∀w,(Instr.buildSlice t n (vs.map λ x=>(x.1,x.2.d)).toArray).run c.P w= .ok (.slice (some ⟨w.heap.size,0,none⟩) n n) (w.alloc (.cells (l.flatMap f).toArray e))) (hd:(Nat.blt d c.N,Nat.beq l.length n,Nat.ble n 9223372036854775807)=(true,true,true))
  (z: ∀v,XG c B k' (.ops all rest) ⟨(kk,kn v sz l f)::s'.F,(kk,.ho (.own e sz v l.length (l.flatMap f)))::s'.H,(d,.t,.sl kk v)::s'.L⟩) (hE:A9 E:=by exact Ad) (hO:O:=by exact Af) (hE1:A9 E1:=by exact Ad):XG c B k m s:=by
 simp only[Prod.mk.injEq]at hd
 have b:=Nat.eq_of_beq_eq_true hd.2.1
 subst b
 refine DC h (hE:=hE) (hO:=hO) λ w M j=>?_
 have A:(⟨xs⟩:Array (Nat×Operand))=xs.toArray:=rfl
 rw[A]
 refine RL.buildSlice (cs:=l.flatMap f) j.st (bQ hx hE1) (D5 f sz q l) hd.2.2 y hd.1 λ v w' M' hS hle=>DD (z v) ⟨hS,AD ⟨hS.sl (i:=0) U,q,trivial⟩ λ x hx=>(j.f x hx).mono hle,j.le.trans hle⟩ U
theorem F4(by':Nat){α:Type}[inh:Inhabited α]{l b:List α}{f:α->List Value}{t e:TypeId}{x y:Operand}{i:TypeInfo}{z v vx:Value}{kk R sz:Nat}{E1:List Ck}{g1 g2:Mem->Prop}{A: ∀M M',M.le M'->g1 M->g1 M'}{C: ∀M M',M.le M'->g2 M->g2 M'}
  (h:run c.T c.N k m s=⟨k',.ops all (⟨some d,.call ⟨.builtin .append,#[x,y],#[t,t]⟩,ty,ps,af,none⟩::rest),s',O,E⟩) (hx:H0 s'.L .t x y=some (.sl kk v,.sl R vx,E1))
  (S:(JY s'.F kk,JY s'.F R,CY s'.H kk)=(some (@Kn.mk α inh v sz l f g1 A),some (@Kn.mk α inh vx sz b f g2 C),some (.ho (.own e sz v l.length (l.flatMap f)))))
  (W:c.P.underlying t=some (.slice e)) (hi:c.P.info? e=some i) (X:i.zero=some z) (hs:(i.size,z.cells.size,i.bytes,Nat.blt 0 by',Nat.blt d c.N)=(sz,sz,by',true,true)) (h1: ∀x,∀u∈f x,u.oneCell'=true) (hb:(len l+len b)*by'<=140737488355328)
  (hn: ∀v',XG c B k' (.ops all rest) ⟨(kk,kn v' sz (l++b) f)::s'.F,C8 s'.H kk (.ho (.own e sz v' (l++b).length ((l++b).flatMap f))),(d,.t,.sl kk v')::s'.L⟩) (hE:A9 E:=by exact Ad) (hO:O:=by exact Af) (hE1:A9 E1:=by exact Ad):XG c B k m s:=by
 simp only[Prod.mk.injEq]at S hs
 obtain⟨D,G,J⟩:=S
 refine DC h (hE:=hE) (hO:=hO) λ w M q=>?_
 obtain⟨j,V,n⟩:=DK (Hr:=c.Hr) J
 obtain⟨K,Q⟩:=FE hx hE1
 refine RL.xC (f:=f) (l:=l) (m:=b) (by':=by') q.st V K Q (q.f.get G).sl W hi X hs.1 hs.2.1 h1 hs.2.2.1 hs.2.2.2.1 hb hs.2.2.2.2 (Hs':=λ v'=>HD (C8 s'.H kk (.ho (.own e sz v' (l++b).length ((l++b).flatMap f))))++c.Hr) (λ v'=>(n (.ho (.own e sz v' (l++b).length ((l++b).flatMap f)))).symm) λ v' w' M' hS hle=>DD (hn v') ⟨hS,AD ⟨?_,(q.f.get D).sz,trivial⟩ λ x hx=>(q.f x hx).mono hle,q.le.trans hle⟩ U
 have h5:(HD (C8 s'.H kk (.ho (.own e sz v' (l++b).length ((l++b).flatMap f))))++c.Hr)[j]? =some (.own e sz v' (l++b).length ((l++b).flatMap f)):=by
  rw[n];rw[List.getElem?_set_self (List.getElem?_eq_some_iff.1 V).1];rfl
 exact hS.sl h5
theorem ET{α:Type}[inh:Inhabited α](kk:Nat)(a b:Int){l:List α}{f:α->List Value}{t e:TypeId}{x:Operand}{lo hi:Option Operand}{v:Value}{kx sz:Nat}{E1:List Ck}{gd:Option (Nat×Bool)}{g1:Mem->Prop}{Q: ∀M M',M.le M'->g1 M->g1 M'}
  (h:run c.T c.N k m s=⟨k',.ops all (⟨some d,.slice t x lo hi none,ty,ps,af,none⟩::rest),s',O,E⟩) (hx:BB s'.L .t x=some (.sl kx v,E1)) (hk:JY s'.F kx=some (@Kn.mk α inh v sz l f g1 Q))
  (D:match lo with|some y=> ∃K,∃E,BB s'.L .t y=some (.v (.int K a),E)/\A9 E|none=>a=0) (j:match hi with|some y=> ∃K,∃E,BB s'.L .t y=some (.v (.int K b),E)/\A9 E|none=>b=len l)
  (R:c.P.underlying t=some (.slice e)) (hs: ∀w,(sizeOf e).run c.P w= .ok sz w) (S:0<=a/\a<=b/\b<=len l) (V:(lo.isSome||hi.isSome)=true)
  (W: ∀v',XG c B k' (.ops all rest) ⟨(kk,kn v' sz (Eng.sub l a b) f)::s'.F,s'.H,(d,.t,.sl kk v')::s'.L⟩) (hE:A9 E:=by exact Ad) (hO:O:=by exact Af) (hE1:A9 E1:=by exact Ad) (hd:Nat.blt d c.N=true:=by exact rfl):XG c B k m s:=by
 refine DC h (hE:=hE) (hO:=hO) λ w M i=>?_
 have n:=i.f.get hk
 have q:Sl M sz l.length v (l.flatMap f):=n.sl
 have A:=A7 hx (hE:=hE1)
 cases lo with
 |some y=>
  obtain⟨K,E2,h2,hE2⟩:=D
  cases hi with
  |some z=>
   obtain⟨X,E3,h3,C⟩:=j
   obtain⟨v',G,J⟩:=zC (P:=c.P) q n.sz R hs a b S
   exact RL.v .none (.kG A (A7 h2 (hE:=hE2)) (A7 h3 (hE:=C)) J) hd (DD (W v') ⟨i.st,AD ⟨G,n.sz,trivial⟩ i.f,i.le⟩ U)
  |none=>
   have hb:b=len l:=j
   subst hb
   obtain⟨v',G,J⟩:=zE (P:=c.P) q n.sz R hs a (len l) S
   exact RL.v .none (.kI A (A7 h2 (hE:=hE2)) J) hd (DD (W v') ⟨i.st,AD ⟨G,n.sz,trivial⟩ i.f,i.le⟩ U)
 |none=>
  have ha:a=0:=D
  subst ha
  cases hi with
  |some z=>
   obtain⟨X,E3,h3,C⟩:=j
   obtain⟨v',G,J⟩:=zD (P:=c.P) q n.sz R hs 0 b S
   exact RL.v .none (.kH A (A7 h3 (hE:=C)) J) hd (DD (W v') ⟨i.st,AD ⟨G,n.sz,trivial⟩ i.f,i.le⟩ U)
  |none=>cases V
theorem IG{α:Type}[inh:Inhabited α](kk:Nat)(l:List α)(f:α->List Value)(sz:Nat)(e:TypeId){t:TypeId}{n:Nat}{xs:List (Nat×Operand)}{vs:List (Nat×XV)}{E1:List Ck}(j: ∀x,(f x).length=sz)(h:run c.T c.N k m s=⟨k',.ops all (⟨some d,.buildSlice t n ⟨xs⟩,ty,ps,af,none⟩::rest),s',O,E⟩)
  (hx:R5 s'.L xs=some (vs,E1)) (q: ∀w,(Instr.buildSlice t n (vs.map λ x=>(x.1,x.2.d)).toArray).run c.P w= .ok (.slice (some ⟨w.heap.size,0,none⟩) n n) (w.alloc (.cells (l.flatMap f).toArray e))) (hd:(Nat.blt d c.N,Nat.beq l.length n,Nat.ble n 9223372036854775807)=(true,true,true))
  (y: ∀v,XG c B k' (.ops all rest) ⟨s'.F,(kk,.pv e (@kn α inh v sz l f) j)::s'.H,(d,.t,.sl kk v)::s'.L⟩) (hE:A9 E:=by exact Ad) (hO:O:=by exact Af) (hE1:A9 E1:=by exact Ad):XG c B k m s:=by
 simp only[Prod.mk.injEq]at hd
 have b:=Nat.eq_of_beq_eq_true hd.2.1
 subst b
 refine DC h (hE:=hE) (hO:=hO) λ w M i=>?_
 have z:(⟨xs⟩:Array (Nat×Operand))=xs.toArray:=rfl
 rw[z]
 exact RL.yB (cs:=l.flatMap f) i.st (bQ hx hE1) (D5 f sz j l) hd.2.2 q hd.1 λ v w' hS=>DD (y v) ⟨hS,i.f,i.le⟩ U
theorem bR{α:Type}[inh:Inhabited α](kk t:Nat)(e:TypeId)(sz:Nat)(f:α->List Value)(n: ∀x,(f x).length=sz)(hl:BN s.L t=some (.t,.v (.slice none 0 0)))
  (q:XG c B k m ⟨s.F,(kk,.pv e (@kn α inh (.slice none 0 0) sz [] f) n)::s.H,(t,.t,.sl kk (.slice none 0 0))::s.L⟩):XG c B k m s:=by
 intro a w ⟨h1,M,h⟩
 refine q a w ⟨⟨h1.size,h1.DX,λ j g v l=>?_⟩,M,h.st.aW e sz,h.f,h.le⟩
 have i:=I0 hl
 by_cases he:t=j
 ·subst he
  have b:look ((t,true,Value.slice none 0 0)::s.L.d) t=some (g,v):=l
  rw[MH]at b;cases b
  exact h1.val _ _ _ i
 ·have b:look ((t,true,Value.slice none 0 0)::s.L.d) j=some (g,v):=l
  rw[NK he]at b
  exact h1.val _ _ _ b
theorem G9(by':Nat){α:Type}[inh:Inhabited α]{l n:List α}{f:α->List Value}{t e:TypeId}{x y:Operand}{i:TypeInfo}{z v vx:Value}{kk K sz:Nat}{E1:List Ck}{q: ∀x,(f x).length=sz}{g2:Mem->Prop}{C: ∀M M',M.le M'->g2 M->g2 M'}
  (h:run c.T c.N k m s=⟨k',.ops all (⟨some d,.call ⟨.builtin .append,#[x,y],#[t,t]⟩,ty,ps,af,none⟩::rest),s',O,E⟩) (hx:H0 s'.L .t x y=some (.sl kk v,.sl K vx,E1))
  (D:(JY s'.F K,CY s'.H kk)=(some (@Kn.mk α inh vx sz n f g2 C),some (.pv e (@kn α inh v sz l f) q)))
  (Q:c.P.underlying t=some (.slice e)) (hi:c.P.info? e=some i) (R:i.zero=some z) (hs:(i.size,z.cells.size,i.bytes,Nat.blt 0 by',Nat.blt d c.N)=(sz,sz,by',true,true)) (h1: ∀x,∀u∈f x,u.oneCell'=true) (S:(len l+len n)*by'<=140737488355328)
  (V: ∀v',XG c B k' (.ops all rest) ⟨s'.F,C8 s'.H kk (.pv e (@kn α inh v' sz (l++n) f) q),(d,.t,.sl kk v')::s'.L⟩) (hE:A9 E:=by exact Ad) (hO:O:=by exact Af) (hE1:A9 E1:=by exact Ad):XG c B k m s:=by
 simp only[Prod.mk.injEq]at hs D
 refine DC h (hE:=hE) (hO:=hO) λ w M A=>?_
 obtain⟨j,W,b⟩:=DK (Hr:=c.Hr) D.2
 obtain⟨G,J⟩:=FE hx hE1
 exact RL.yC (f:=f) (l:=l) (m:=n) (by':=by') A.st W G J (A.f.get D.1).sl Q hi R hs.1 hs.2.1 h1 hs.2.2.1 hs.2.2.2.1 S hs.2.2.2.2 (Hs':=λ v'=>HD (C8 s'.H kk (.pv e (@kn α inh v' sz (l++n) f) q))++c.Hr) (λ v'=>(b (.pv e (@kn α inh v' sz (l++n) f) q)).symm) λ v' w' hS=>DD (V v') ⟨hS,A.f,A.le⟩ U
theorem C6{α:Type}[inh:Inhabited α](kk:Nat){e:TypeId}{v:Value}{sz:Nat}{l:List α}{f:α->List Value}{hl: ∀x,(f x).length=sz}{h:List (Nat×HX)}(n:LG s.H kk=some (.pv e (@kn α inh v sz l f) hl,h))(q:XG c B k m ⟨(kk,@kn α inh v sz l f)::s.F,h,s.L⟩):XG c B k m s:=by
 intro a w ⟨h1,M,j⟩
 have hS:=j.st.perm (Hs':=HX.d (.pv e (@kn α inh v sz l f) hl)::(HD h++c.Hr)) (by have:=(WI n).append_right c.Hr;exact this)
 have hi:(HX.d (.pv e (@kn α inh v sz l f) hl)::(HD h++c.Hr))[0]? =some (.priv e sz v l.length (l.flatMap f)):=rfl
 obtain⟨M',b,hle⟩:=hS.show hi
 refine q a w ⟨h1,M',b.erase 0 U,AD ⟨b.sl (i:=0) U,hl,trivial⟩ λ x hx=>(j.f x hx).mono hle,j.le.trans hle⟩
theorem I2{α:Type}[inh:Inhabited α](b:α){l:List α}{f:α->List Value}{t e:TypeId}{x y:Operand}{v:Value}{kk sz j n:Nat}{i:Int}{E1:List Ck}{u:XV}{A: ∀x,(f x).length=sz}
  (h:run c.T c.N k m s=⟨k',.ops all (⟨none,.store t x y,ty,ps,af,none⟩::rest),s',O,E⟩) (hx:H0 s'.L .t x y=some (.el kk v sz i j,u,E1)) (V:CY s'.H kk=some (.pv e (@kn α inh v sz l f) A))
  (W: ∀w,(sizeOf t).run c.P w= .ok n w) (hu:u.d.cells.toList.length=n) (G:(Nat.blt 0 n,Nat.ble (j+n) sz,u.d.cells.toList.all (·.oneCell'))=(true,true,true)) (X:BY (f (at' l i)) j u.d.cells.toList=f b) (S:0<=i/\i<len l)
  (hn: ∀l',l'=l.set i.toNat b->XG c B k' (.ops all rest) ⟨s'.F,C8 s'.H kk (.pv e (@kn α inh v sz l' f) A),s'.L⟩) (hE:A9 E:=by exact Ad) (hO:O:=by exact Af) (hE1:A9 E1:=by exact Ad):XG c B k m s:=by
 simp only[Prod.mk.injEq]at G
 refine DC h (hE:=hE) (hO:=hO) λ w M J=>?_
 obtain⟨q,hq,z⟩:=DK (Hr:=c.Hr) V
 obtain⟨K,Q⟩:=FE hx hE1
 obtain⟨C,_⟩:=CE l S.1 S.2
 have R:=Nat.le_of_ble_eq_true G.2.1
 have D:i.toNat*sz+j+n<=(l.flatMap f).length:=by
  rw[D5 f sz A]
  have:=Nat.mul_le_mul_right sz (show i.toNat+1<=l.length from C)
  rw[Nat.add_mul]at this;omega
 refine RL.yD (P:=c.P) (o:=i.toNat*sz+j) (xs':=(l.set i.toNat b).flatMap f) (Hs':=HD (C8 s'.H kk (.pv e (@kn α inh v sz (l.set i.toNat b) f) A))++c.Hr) J.st hq (by have:=K;simp only[XV.d,XV.d1,XV.d0,Nat.add_assoc]at this ⊢;exact this) Q W hu G.1 D G.2.2 (yE A l i.toNat b j _ C X (by rw[hu];exact R)) ?_ λ w' hS=>DD (hn _ U) ⟨hS,J.f,J.le⟩ U
 rw[z]
 show(HD s'.H++c.Hr).set q (.priv e sz v l.length ((l.set i.toNat b).flatMap f))=(HD s'.H++c.Hr).set q (.priv e sz v (l.set i.toNat b).length ((l.set i.toNat b).flatMap f))
 rw[List.length_set]
def R6(J:XS->Prop):List Fr->Nat->Option (List Fr×Code×List Fr)
 |[],_=>none
 |x::k,0=>match x with
  | .seq y=>some (.loop J::k,y,k)
  |_=>none
 |x::k,n+1=>match R6 J k n with
  |some (a,y,b)=>some (x::a,y,b)
  |none=>none
theorem bS{J:XS->Prop}: ∀ {k:List Fr} {n:Nat} {a b:List Fr} {y:Code},R6 J k n=some (a,y,b)-> ∃p,k=p++ .seq y::b/\a=p++ .loop J::b
 |[],_,_,_,_,h=>by cases h
 |x::k,0,a,b,e,h=>by
  simp only[R6]at h
  split at h
  ·simp only[Option.some.injEq,Prod.mk.injEq]at h;obtain⟨rfl,rfl,rfl⟩:=h;exact⟨[],rfl,rfl⟩
  ·cases h
 |x::k,n+1,a,b,e,h=>by
  simp only[R6]at h
  split at h
  ·rename_i a2 q s i
   simp only[Option.some.injEq,Prod.mk.injEq]at h;obtain⟨rfl,rfl,rfl⟩:=h
   obtain⟨p,j,l⟩:=bS i
   exact⟨x::p,by rw[j];rfl,by rw[l];rfl⟩
  ·cases h
theorem R7{n b:Act->World->Prop}{Q Q':Exit->Act->World->Prop}(i: ∀a w,n a w->b a w)(j: ∀e a w,Q e a w->Q' e a w)(e:Exit)(a:Act)(w:World)(h:Exit.then n Q e a w):Exit.then b Q' e a w:=by
 cases e<;>first|exact i _ _ h|exact j _ _ _ h
theorem LK{K j:List Fr}(h: ∀e a w,post c B K e a w->post c B j e a w): ∀(p:List Fr) (e:Exit) (a:Act) (w:World),post c B (p++K) e a w->post c B (p++j) e a w
 |[],e,a,w,q=>h e a w q
 | .seq y::p,e,a,w,q=>R7 (λ _ _ h1=>c.W.mono h1 (LK h p)) (LK h p) e a w q
 | .block id::p,e,a,w,q=>by
  cases e with
  |exit b=>
   show if b=id then _ else _
   have i:if b=id then _ else _:=q
   split<;>rename_i hid
   ·rw[if_pos hid]at i;exact LK h p _ a w i
   ·rw[if_neg hid]at i;exact LK h p _ a w i
  |_=>exact LK h p _ a w q
 | .scope::p,e,a,w,q=>by cases e<;>first|exact q.elim|exact LK h p _ a w q
 | .loop J::p,e,a,w,q=>R7 (λ _ _ h1=>h1) (LK h p) e a w q
theorem CQ(n:Nat)(J:XS->Prop){b:Bool}{x y z:Code}{i q:List Fr}(h:run c.T c.N k m s=⟨k',.br b x y,s',O,E⟩)(l:R6 J k' n=some (i,z,q))
  (A:b=true->XG c B i (.code x) s') (C:b=false->XG c B i (.code y) s') (D: ∀s',J s'->XG c B q (.code z) s') (hE:A9 E:=by exact Ad) (hO:O:=by exact Af):XG c B k m s:=by
 obtain⟨p,rfl,rfl⟩:=bS l
 have hm: ∀e a w,post c B (.loop J::q) e a w->post c B (.seq z::q) e a w:=λ e a w h=>R7 (λ a w ⟨s',F,hs⟩=>D s' F a w hs) (λ _ _ _ h=>h) e a w h
 exact A1 h (hE:=hE) (hO:=hO) (λ j a w hs=>c.W.mono (A j a w hs) (LK hm p)) (λ j a w hs=>c.W.mono (C j a w hs) (LK hm p))
theorem AT{J:XS->Prop}(s2:XS)(h:run c.T c.N k m s=⟨.loop J::k',.next,s',O,E⟩)(h0:(⟨J0 s2.F s'.F,J1 s2.H s'.H,G8 (keys s2.L) s'.L⟩:XS)=s2)(b:J s2)(hE:A9 E:=by exact Ad)(hO:O:=by exact Af):XG c B k m s:=
 CL h hE hO λ a w hs=>⟨s2,b,hs.sub (XS.MN h0)⟩
end
def MP{γ:Type}(w:World)(M:Mem)(u:γ->Value)(pu:γ->Prop)(Fg:γ->List (Nat×Kn)):Ending->World->Prop:=
 λ e w'=> ∃g M',e= .returned (u g)/\pu g/\Grow w M w' M'/\BI M' (Fg g)
def BF{γ:Type}(w0:World)(M0 M:Mem)(Rs:List HO)(u:γ->Value)(pu:γ->Prop)(Fg:γ->List (Nat×Kn))(Hg:γ->List HO):Ending->World->Prop:=
 λ e w'=> ∃g M',e= .returned (u g)/\pu g/\M.le M'/\St w0 M0 w' M' (Hg g++Rs)/\BI M' (Fg g)
def PC:List Nat->List (Nat×Kn)->List (Nat×Kn)
 |k::ks,(_,x)::F=>(k,x)::PC ks F
 |_,_=>[]
theorem U7{M:Mem}: ∀ {e:List Nat} {F:List (Nat×Kn)},BI M F->BI M (PC e F)
 |[],_,_=>λ x hx=>by cases hx
 |_::_,[],_=>λ x hx=>by cases hx
 |k::e,(i,x)::F,h=>λ y b=>by
  rcases List.mem_cons.1 b with rfl|b
  ·exact h (i,x) (.head _)
  ·exact U7 (λ z j=>h z (.tail _ j)) y b
theorem BI.app {M:Mem}{F G:List (Nat×Kn)}(h:BI M F)(k:BI M G):BI M (F++G):=λ x hx=>by
 rcases List.mem_append.1 hx with hx|hx
 ·exact h x hx
 ·exact k x hx
theorem BI.mono {M M':Mem}{F:List (Nat×Kn)}(h:BI M F)(hm:M.le M'):BI M' F:=λ x hx=>(h x hx).mono hm
def GA:List Nat->List (Nat×HX)->Option (List (Nat×HX)×List (Nat×HX))
 |[],H=>some ([],H)
 |k::ks,H=>match LG H k with
  |some (x,H')=>match GA ks H' with
   |some (A,R)=>some ((k,x)::A,R)
   |none=>none
  |none=>none
theorem PD: ∀ {b:List Nat} {H A R:List (Nat×HX)},GA b H=some (A,R)->(HD A++HD R).Perm (HD H)
 |[],H,A,R,h=>by simp only[GA,Option.some.injEq,Prod.mk.injEq]at h;obtain⟨rfl,rfl⟩:=h;exact .refl _
 |k::b,H,A,R,h=>by
  unfold GA at h
  split at h
  ·rename_i x i h1
   split at h
   ·rename_i j l e
    simp only[Option.some.injEq,Prod.mk.injEq]at h;obtain⟨rfl,rfl⟩:=h
    exact((PD e).cons x.d).trans (WI h1)
   ·cases h
  ·cases h
def bT(dd:Option Tmp)(v:XV)(L:XE):XE:=match dd with
 |some d=>(d,.t,v)::L
 |none=>L
def kK(dd:Option Tmp)(N:Nat):Bool:=match dd with
 |some d=>Nat.blt d N
 |none=>true
section
variable {c:Cx} {B:Exit->Act->World->Prop} {k k':List Fr} {m:Md} {s s':XS} {O:Prop} {E:List Ck} {all:Array Oper} {rest:List Oper} {d:Nat} {ty:TypeId} {ps:String} {af:Array Edge}
theorem CZ.sl {F:List (Nat×Kn)}{H:List (Nat×HX)}{w:World}{M:Mem}(h:CZ c F H w M)(k:Nat){α:Type}{inh:Inhabited α}{v:Value}{sz:Nat}{l:List α}{f:α->List Value}{g:Mem->Prop}{hg: ∀M M',M.le M'->g M->g M'}(b:JY F k=some (@Kn.mk α inh v sz l f g hg)):Sl M sz l.length v (l.flatMap f):=(h.f.get b).sl
def callee(L:XE):Operand->Option (FuncId×List Value×List Value×List Ck)
 | .func f=>some (f,[],[],[])
 |x=>match BB L .t x with
  |some (.v (.func (.func f) ⟨a⟩ ⟨b⟩),E)=>some (f,a,b,E)
  |_=>none
theorem bU{P:Program}{ops:Array Oper}{Q:Exit->Act->World->Prop}{N:Nat}{L:XE}{w:World}{j:Operand}{f:FuncId}{a b:List Value}{E1:List Ck}{xs:List Operand}{vs:List Value}{tys:Array TypeId}{R:Ending->World->Prop}{n:Option Tmp}
  (k:CT P f) (h:callee L j=some (f,a,b,E1)) (hE1:A9 E1) (hx:EE L.d true xs vs) (y:Calls P f (a++vs++b).toArray w R)
  (z: ∀v w',R (.returned v) w'-> ∀ac,AZ ac N L.d->wpList P ops Q rest (ac.put n v) w') (hp: ∀l w',R (.panicked l) w'-> ∀ac,AZ ac N L.d->Q (.panic l) ac w') (ho: ∀w',¬R .outgrown w'):
  RL P ops Q N (⟨n,.call ⟨.value j,⟨xs⟩,tys⟩,ty,ps,af,none⟩::rest) L.d w:=by
 intro ac hs
 refine wpList_plain U λ K A=>?_
 have key:(execOp ac.eval ⟨n,.call ⟨.value j,⟨xs⟩,tys⟩,ty,ps,af,none⟩).run P w= .ok (.enter f (a++vs++b).toArray) w:=by
  have B:(⟨xs⟩:Array Operand)=xs.toArray:=rfl
  rw[B]
  cases j with
  |func q=>
   simp only[callee,Option.some.injEq,Prod.mk.injEq]at h
   obtain⟨rfl,rfl,rfl,rfl⟩:=h
   simpa using QS k hx hs U
  |tmp t=>
   simp only[callee]at h
   split at h
   ·rename_i q a' i s h1
    simp only[Option.some.injEq,Prod.mk.injEq]at h
    obtain⟨rfl,rfl,rfl,rfl⟩:=h
    exact a8 (fs:=a') (cs:=i) k (A7 h1 (hE:=hE1)) hx hs U
   ·cases h
  |const v=>
   simp only[callee]at h
   split at h
   ·rename_i q a' i s h1
    simp only[Option.some.injEq,Prod.mk.injEq]at h
    obtain⟨rfl,rfl,rfl,rfl⟩:=h
    exact a8 (fs:=a') (cs:=i) k (A7 h1 (hE:=hE1)) hx hs U
   ·cases h
  |global g=>
   simp only[callee]at h
   split at h
   ·rename_i q a' i s h1
    simp only[Option.some.injEq,Prod.mk.injEq]at h
    obtain⟨rfl,rfl,rfl,rfl⟩:=h
    exact a8 (fs:=a') (cs:=i) k (A7 h1 (hE:=hE1)) hx hs U
   ·cases h
 simp only[Oper.wp,key,Oper.upon_enter]
 refine y.mono λ e w' he=>?_
 cases e with
 |returned v=>exact A _ _ (z v w' he ac hs)
 |panicked l=>exact hp l w' he ac hs
 |outgrown=>exact absurd he (ho w')
theorem R8{N:Nat}{L:XE}{a:Act}(hs:AZ a N L.d){d:Nat}(hd:Nat.blt d N=true)(v:XV):AZ (a.put (some d) v.d) N (XE.d ((d,.t,v)::L)):=hs.put hd true v.d
theorem FM{γ:Type}(e:γ->XV)(q:List Nat){u:γ->Value}{pu:γ->Prop}{Fg:γ->List (Nat×Kn)}{j:Operand}{f:FuncId}{l n:List Value}{E1 E2:List Ck}{xs:List Operand}{tys:Array TypeId}{vs:List XV}
  (h:run c.T c.N k m s=⟨k',.ops all (⟨some d,.call ⟨.value j,⟨xs⟩,tys⟩,ty,ps,af,none⟩::rest),s',O,E⟩) (y:callee s'.L j=some (f,l,n,E1)) (z:CT c.P f) (hx:JH s'.L .t xs=some (vs,E2))
  (A: ∀w M,CZ c s'.F s'.H w M->Calls c.P f (l++vs.map XV.d++n).toArray w (MP w M u pu Fg))
  (C: ∀g,pu g->XG c B k' (.ops all rest) ⟨PC q (Fg g)++s'.F,s'.H,(d,.t,e g)::s'.L⟩) (hE:A9 E:=by exact Ad) (hO:O:=by exact Af) (hd:Nat.blt d c.N=true:=by exact rfl) (hE1:A9 (E1++E2):=by exact Ad) (hu: ∀g,(e g).d=u g:=by intros;rfl):XG c B k m s:=by
 refine DC h (hE:=hE) (hO:=hO) λ w M b=>bU z y hE1.app.1 (LH hx hE1.app.2) (A w M b) ?_ (λ D w' i=>?_) (λ w' i=>?_)
 ·rintro v w' ⟨g,M',he,hp,hg,hF⟩ ac hs
  cases he
  have:=R8 hs hd (e g)
  rw[hu]at this
  exact c.W.back (C g hp _ w' ⟨this,M',b.st.grow hg,(U7 hF).app (b.f.mono (hg.le b.st.sat)),b.le.trans (hg.le b.st.sat)⟩)
 ·obtain⟨g,M',he,_⟩:=i;cases he
 ·obtain⟨g,M',he,_⟩:=i;cases he
theorem AP{γ:Type}(ids:List Nat)(i:γ->XV)(G:List Nat)(l:γ->List (Nat×HX)){u:γ->Value}{pu:γ->Prop}{Fg:γ->List (Nat×Kn)}{Hg:γ->List HO}{z:Operand}{f:FuncId}{C D:List Value}{E1 E2:List Ck}{xs:List Operand}{tys:Array TypeId}{vs:List XV}{A R:List (Nat×HX)}{b:Option Tmp}
  (h:run c.T c.N k m s=⟨k',.ops all (⟨b,.call ⟨.value z,⟨xs⟩,tys⟩,ty,ps,af,none⟩::rest),s',O,E⟩) (J:callee s'.L z=some (f,C,D,E1)) (K:CT c.P f) (hx:JH s'.L .t xs=some (vs,E2))
  (Q:GA ids s'.H=some (A,R)) (S: ∀w M,St c.w0 c.M0 w M (HD A++(HD R++c.Hr))->BI M s'.F->Calls c.P f (C++vs.map XV.d++D).toArray w (BF c.w0 c.M0 M (HD R++c.Hr) u pu Fg Hg))
  (V: ∀g,pu g->XG c B k' (.ops all rest) ⟨PC G (Fg g)++s'.F,l g++R,bT b (i g) s'.L⟩) (hE:A9 E:=by exact Ad) (hO:O:=by exact Af) (hd:kK b c.N=true:=by exact rfl) (hE1:A9 (E1++E2):=by exact Ad) (hu: ∀g,(i g).d=u g:=by intros;rfl) (hH: ∀g,HD (l g)=Hg g:=by intros;rfl):XG c B k m s:=by
 refine DC h (hE:=hE) (hO:=hO) λ w M j=>?_
 have n:St c.w0 c.M0 w M (HD A++(HD R++c.Hr)):=j.st.perm (by rw[<-List.append_assoc];exact(PD Q).append_right _)
 refine bU K J hE1.app.1 (LH hx hE1.app.2) (S w M n j.f) ?_ (λ X w' q=>?_) (λ w' q=>?_)
 ·rintro v w' ⟨g,M',he,hp,hle,hS,hF⟩ ac hs
  cases he
  have y:AZ (ac.put b (u g)) c.N (XE.d (bT b (i g) s'.L)):=by
   cases b with
   |some d=>have:=R8 hs hd (i g);rw[hu]at this;exact this
   |none=>exact hs
  refine c.W.back (V g hp _ w' ⟨y,M',?_,(U7 hF).app (j.f.mono hle),j.le.trans hle⟩)
  have e:HD (l g++R)++c.Hr=Hg g++(HD R++c.Hr):=by rw[<-hH];unfold HD;rw[List.map_append,List.append_assoc]
  rw[e];exact hS
 ·obtain⟨g,M',he,_⟩:=q;cases he
 ·obtain⟨g,M',he,_⟩:=q;cases he
theorem NT{b:Bool}(e:b=true){E:List Ck}(h:E=[.b true b]):A9 E:=by
 subst h;intro c i;rw[List.mem_singleton.1 i];exact λ _=>e
theorem GB(j:XV){op:Op}{gd:Option (Nat×Bool)}{b:Bool}(h:run c.T c.N k m s=⟨k',.ops all (⟨some d,op,ty,ps,af,gd⟩::rest),s',O,E⟩)(hg:(H3 all s'.L gd,Nat.blt d c.N)=(some (.g b),true))
  (h1:b=true->XG c B k' (.ops all (⟨some d,op,ty,ps,af,none⟩::rest)) s') (n:b=false->XG c B k' (.ops all rest) ⟨s'.F,s'.H,(d,.g b,j)::s'.L⟩) (hE:A9 E:=by exact Ad) (hO:O:=by exact Af):XG c B k m s:=by
 simp only[Prod.mk.injEq]at hg
 refine CL h hE hO λ a w ⟨hs,M,l⟩=>?_
 have e:=DU.wanted (o:=⟨some d,op,ty,ps,af,gd⟩) (LF hg.1) hs
 have i:(Gd.g b).d=b:=rfl
 rw[i]at e
 cases b with
 |true=>exact c.W.want e (h1 U a w ⟨hs,M,l⟩)
 |false=>
  refine c.W.one ?_
  unfold wpList
  rw[e]
  refine c.W.back (n U _ w ⟨?_,M,l⟩)
  exact hs.put hg.2 false j.d
def NU(
     T:TT) (H:List (Nat×HX)) (L:XE):List ResultVar->Option (List XV×List Ck)
 |[]=>some ([],[])
 |r::rs=>match NU T H L rs with
  |some (vs,E)=>match r with
   | .tmp t=>match BN L t with
    |some (.t,v)=>some (v::vs,E)
    |_=>none
   | .cell t ty=>match BN L t with
    |some (.t,.bx k b o)=>match W9 T [] H ty (.bx k b o)with
     |some (v,[],E')=>some (v::vs,E'++E)
     |_=>none
    |_=>none
  |none=>none
def PE:List XV->Value
 |[v]=>v.d
 |vs=>.tuple (vs.map XV.d).toArray
theorem bV{P:Program}{T:TT}(hT:DP P T){H:List (Nat×HX)}{Hr:List HO}{w0 w:World}{M0 M:Mem}{L:XE}{a:Act}{N:Nat}(hS:St w0 M0 w M (HD H++Hr))(hs:AZ a N L.d): ∀ {rs:List ResultVar} {vs:List XV} {E:List Ck},NU T H L rs=some (vs,E)->A9 E->(rs.mapM (JX a.tmps)).run P w= .ok (vs.map XV.d) w
 |[],vs,E,h,_=>by simp only[NU,Option.some.injEq,Prod.mk.injEq]at h;obtain⟨rfl,rfl⟩:=h;rfl
 |r::rs,vs,E,h,hE=>by
  unfold NU at h
  split at h
  ·rename_i i n h1
   have fin: ∀(v:XV),(JX a.tmps r).run P w= .ok v.d w->A9 n->((r::rs).mapM (JX a.tmps)).run P w= .ok ((v::i).map XV.d) w:=λ v q j=>by
    simp only[List.mapM_cons,Sem.run_bind,q,Result.andThen_ok,bV hT hS hs h1 j,Sem.run_pure,List.map_cons]
   split at h
   ·split at h
    ·rename_i t v hl
     simp only[Option.some.injEq,Prod.mk.injEq]at h;obtain⟨rfl,rfl⟩:=h
     exact fin _ (by simp only[JX,hs.get (I0 hl)];rfl) hE
    ·cases h
   ·split at h
    ·rename_i t ty A k b o hl
     split at h
     ·rename_i v E2 s
      simp only[Option.some.injEq,Prod.mk.injEq]at h;obtain⟨rfl,rfl⟩:=h
      refine fin _ ?_ hE.app.2
      have hp:PV P (· =w) L.d true ⟨some 0,.load ty (.tmp t),0,"",#[],none⟩ v.d:=jM (W:=.t) (gd:=none) hT (F:=[]) (Hr:=Hr) A3 hS GZ s hE.app.1 (.t (I0 hl)) (λ _=>trivial)
      have e:=hp a N hs U w U
      have y:=hs.get (I0 hl)
      have l:a.tmps.getD t undef= .pointer (some ⟨b,o,none⟩):=y
      have z:a.eval (.tmp t)= .pointer (some ⟨b,o,none⟩):=l
      simp only[execOp,z,Sem.run_bind,Instr.loadAt,Instr.sureAddr,Sem.run_pure,Result.andThen_ok]at e
      simp only[JX,l,asAddr,Sem.run_bind,Sem.run_pure,Result.andThen_ok]
      cases hl2:(loadVar ty ⟨b,o,none⟩).run P w with
      |ok x w'=>rw[hl2]at e;simp only[Result.andThen_ok,Result.ok.injEq,Next.value.injEq]at e;obtain⟨rfl,rfl⟩:=e;rfl
      |halt x w'=>rw[hl2]at e;cases e
     ·cases h
    ·cases h
  ·cases h
theorem A2{fn:Func}{R:Ending->World->Prop}{rs:List ResultVar}{vs:List XV}{E2:List Ck}(e:Ends c.P fn R B)(i:fn.results=⟨rs⟩)(h:run c.T c.N k m s=⟨[],.ret,s',O,E⟩)(hl:NU c.T s'.H s'.L rs=some (vs,E2))(j: ∀w M,CZ c s'.F s'.H w M->R (.returned (PE vs)) w)(hE:A9 E:=by exact Ad)(hO:O:=by exact Af)(hE2:A9 E2:=by exact Ad):XG c B k m s:=
 CL h hE hO λ a w ⟨h1,M,b⟩=>e.all _ _ _ (bodyPost_ret (v:=PE vs) (by
  rw[iT,i]
  have l:=bV c.hT b.st h1 hl hE2
  have n:((⟨rs⟩:Array ResultVar).mapM (JX a.tmps)).run c.P w= .ok (vs.map XV.d).toArray w:=by
   rw[Array.mapM_eq_mapM_toList]
   refine(Sem.run_bind' c.P _ _ w).trans ?_
   rw[l];rfl
  rw[Sem.run_bind,n]
  simp only[Result.andThen_ok,Sem.run_pure]
  congr 1
  match vs with
  |[]=>rfl
  |[v]=>rfl
  |_::_::_=>simp[PE]) h1.DX (j w M b))
theorem U8{fn:Func}{R:Ending->World->Prop}(b:Ends c.P fn R B)(e:fn.results= #[])(h:run c.T c.N k m s=⟨[],.next,s',O,E⟩)(i: ∀w M,CZ c s'.F s'.H w M->R (.returned (.tuple #[])) w)(hE:A9 E:=by exact Ad)(hO:O:=by exact Af):XG c B k m s:=
 CL h hE hO λ a w ⟨h1,M,j⟩=>b.e0 e (i w M j) a h1
def XQ(c:Cx)(B:Exit->Act->World->Prop)(k:List Fr)(all:Array Oper)(l:List Oper)(s:XS):Prop:= ∀w M,CZ c s.F s.H w M->RQ c.P all (λ w'=>Ext w w') c.N (λ a=> ∀w',St c.w0 c.M0 w' M (HD s.H++c.Hr)->post c B k .normal a w') l s.L.d
theorem FX{id:Nat}{l:List Oper}(h:run c.T c.N k m s=⟨k',.code (.region id ⟨l⟩ true),s',O,E⟩)(hm:c.P.follows .mixedOrders=true)(i:Region.lexB .any l.toArray=true)(j:XQ c B k' l.toArray l s')(b:c.W.plain:=by exact True.intro)(hE:A9 E:=by exact AG rfl)(hO:O:=by exact Af):XG c B k m s:=
 CL h hE hO λ a w ⟨h1,M,e⟩=>c.W.draw b (CW.ZY e.st hm i (j w M e) a h1)
structure QR:Type where
 l:List Oper
 L:XE
 O:Prop
 E:List Ck
def U9(W:Gd):List Prop->Prop->(Prop->QR)->QR
 |[],O,K=>K O
 |p::ps,O,K=>match W with
  | .t=>U9 W ps (p/\O) K
  | .g b=>U9 W ps ((b=false\/p)/\O) K
theorem WM{W:Gd}{K:Prop->QR}: ∀ {ps:List Prop} {O:Prop},∃i,U9 W ps O K=K i/\(i->(W.d=true->IF ps)/\O)
 |[],O=>⟨O,rfl,λ h=>⟨λ _=>trivial,h⟩⟩
 |p::ps,O=>by
  unfold U9
  cases W with
  |t=>
   obtain⟨i,h1,e⟩:=WM (W:=.t) (K:=K) (ps:=ps) (O:=p/\O)
   exact⟨i,h1,λ h=>⟨λ j=>⟨(e h).2.1,(e h).1 j⟩,(e h).2.2⟩⟩
  |g b=>
   obtain⟨i,h1,e⟩:=WM (W:=.g b) (K:=K) (ps:=ps) (O:=(b=false\/p)/\O)
   exact⟨i,h1,λ h=>⟨λ j=>⟨(e h).2.1.resolve_left (by rw[show b=true from j];decide),(e h).1 j⟩,(e h).2.2⟩⟩
def J4(
     T:TT) (N:Nat) (F:List (Nat×Kn)) (H:List (Nat×HX)) (all:Array Oper):List Oper->XE->Prop->List Ck->QR
 |[],L,O,E=>⟨[],L,O,E⟩
 |⟨dst,op,ty,ps,af,gd⟩::rest,L,O,E=>match dst with
  |some d=>match H3 all L gd with
   |some W=>match QZ T F H L W op with
    |some (v,p,E')=>match Nat.blt d N with
     |true=>U9 W p O λ O'=>J4 T N F H all rest ((d,W,v)::L) O' (E'++E)
     |false=>⟨⟨dst,op,ty,ps,af,gd⟩::rest,L,O,E⟩
    |none=>⟨⟨dst,op,ty,ps,af,gd⟩::rest,L,O,E⟩
   |none=>⟨⟨dst,op,ty,ps,af,gd⟩::rest,L,O,E⟩
  |none=>⟨⟨dst,op,ty,ps,af,gd⟩::rest,L,O,E⟩
theorem WN{F:List (Nat×Kn)}{H:List (Nat×HX)}: ∀ {l:List Oper} {L:XE} {O:Prop} {E:List Ck},let t:=J4 c.T c.N F H all l L O E;t.O->A9 t.E->XQ c B k all t.l ⟨F,H,t.L⟩->O/\A9 E/\XQ c B k all l ⟨F,H,L⟩
 |[],L,O,E=>λ h1 b e=>⟨h1,b,e⟩
 |⟨dst,op,ty,ps,af,gd⟩::rest,L,O,E=>by
  intro t h1 b e
  have i:t=J4 c.T c.N F H all (⟨dst,op,ty,ps,af,gd⟩::rest) L O E:=rfl
  unfold J4 at i
  split at i
  ·rename_i d
   split at i
   ·rename_i W z
    split at i
    ·rename_i v p A C
     split at i
     ·rename_i hd
      obtain⟨s,hi,j⟩:=WM (W:=W) (K:=λ s=>J4 c.T c.N F H all rest ((d,W,v)::L) s (A++E)) (ps:=p) (O:=O)
      rw[i,hi]at h1 b e
      obtain⟨r1,y,D⟩:=WN h1 b e
      obtain⟨hp,n⟩:=j r1
      refine⟨n,(A9.app y).2,λ w M q=>?_⟩
      exact RQ.v (LF z) (TW c.hT q.f q.st (λ _ h=>h) C (A9.app y).1 hp) hd (D w M q)
     ·rw[i]at h1 b e;exact⟨h1,b,e⟩
    ·rw[i]at h1 b e;exact⟨h1,b,e⟩
   ·rw[i]at h1 b e;exact⟨h1,b,e⟩
  ·rw[i]at h1 b e;exact⟨h1,b,e⟩
theorem FY{l:List Oper}{F:List (Nat×Kn)}{H:List (Nat×HX)}{L L':XE}(h:J4 c.T c.N F H all l L ((0:Int)=0) []=⟨[],L',O,E⟩)(e:XG c B k .next ⟨F,H,L'⟩)(hE:A9 E:=by exact Ad)(hO:O:=by exact Af):XQ c B k all l ⟨F,H,L⟩:=by
 have:=WN (c:=c) (B:=B) (k:=k) (all:=all) (F:=F) (H:=H) (l:=l) (L:=L) (O:=(0:Int)=0) (E:=[])
 rw[h]at this
 exact(this hO hE λ w M b=>RQ.nil λ a hs w' hS=>e a w' ⟨hs,M,hS,b.f,b.le⟩).2.2
theorem H4{l:List Oper}{F:List (Nat×Kn)}{H:List (Nat×HX)}{L L':XE}{f:FuncId}{xs:List Operand}{tys:Array TypeId}{gd:Option (Nat×Bool)}{W:Gd}{vs:List XV}{E2:List Ck}{u:Value}{v:XV}
  (h:J4 c.T c.N F H all l L ((0:Int)=0) []=⟨⟨some d,.call ⟨.value (.func f),⟨xs⟩,tys⟩,ty,ps,af,gd⟩::rest,L',O,E⟩) (j:CT c.P f) (hg:(H3 all L' gd,Nat.blt d c.N)=(some W,true)) (hx:JH L' W xs=some (vs,E2))
  (n:W.d=true-> ∀w M,CZ c F H w M->Calls c.P f (vs.map XV.d).toArray w (λ e w'=>e= .returned u/\Ext w w')) (q:vx u=some v) (s:XQ c B k all rest ⟨F,H,(d,W,v)::L'⟩) (hE:A9 E:=by exact Ad) (hO:O:=by exact Af) (hE2:A9 E2:=by exact Ad):XQ c B k all l ⟨F,H,L⟩:=by
 simp only[Prod.mk.injEq]at hg
 have:=WN (c:=c) (B:=B) (k:=k) (all:=all) (F:=F) (H:=H) (l:=l) (L:=L) (O:=(0:Int)=0) (E:=[])
 rw[h]at this
 refine(this hO hE λ w M i=>?_).2.2
 have y:=s w M i
 have z:XE.d ((d,W,v)::L')=(d,W.d,u)::L'.d:=by rw[<-bK q];rfl
 have A:RQ c.P all (λ w'=>Ext w w') c.N (λ a=> ∀w',St c.w0 c.M0 w' M (HD H++c.Hr)->post c B k .normal a w') rest ((d,W.d,u)::L'.d):=z▸y
 exact RQ.call (LF hg.1) j (LH hx hE2) (λ C w1 b=>(n C w1 M ⟨i.st.ext b,i.f,i.le⟩).mono λ e w' ⟨h1,D⟩=>⟨h1,b.trans D⟩) hg.2 A
end
end Go.Eng
