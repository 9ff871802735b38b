/-
  Parts Xr Tt Xw, put together and made short by wip/py/merge.py (mini.py).
-/
import Derived.Test.YtmjpjbmeamnfpaaGreatDoorZc8
import Derived.Test.YtmjpjbmeamnfpaaGreatDoorProg
import Derived.Test.YtmjpjbmeamnfpaaGreatDoorZc0
set_option linter.unusedVariables false
set_option linter.unusedSimpArgs false
namespace Go.Eng
open Go.RowKit
class gI (P:Program)where
 T:TT
 ok:EN P T
inductive Tg where
 |s (k:Nat)
 |b (k:Nat)
 |g
def gJ:List (Nat×Tg)->Nat->Option Tg
 |[],_=>none
 |(t,d)::T,k=>match Nat.beq t k with
  |true=>some d
  |false=>gJ T k
def LN(tg:List (Nat×Tg))(L:Env):List Nat->XE->List Ck->Option (XE×List Ck)
 |[],X,E=>some (X,E)
 |k::ks,X,E=>match look L k with
  |none=>LN tg L ks X E
  |some (g,v)=>match gJ tg k with
   |some (.s n)=>LN tg L ks ((k,.t,.sl n v)::X) (.b true g::E)
   |some (.b n)=>match v with
    | .pointer (some ⟨b,o,none⟩)=>LN tg L ks ((k,.t,.bx n b o)::X) (.b true g::E)
    |_=>none
   |some .g=>LN tg L ks ((k,.g g,.v v)::X) E
   |none=>LN tg L ks ((k,.t,.v v)::X) (.b true g::E)
def I9(X:XE)(L:Env):Prop:= ∀k g v,BL X k=some (g,v)->look L k=some (g.d,v.d)
theorem I9.cons {X:XE}{L:Env}(h:I9 X L){k:Nat}{g:Gd}{v:XV}{g':Bool}{v':Value}(hl:look L k=some (g',v'))(hg:g.d=g')(hv:v.d=v'):I9 ((k,g,v)::X) L:=by
 intro t g2 v2 ht
 unfold BL at ht
 split at ht
 ·rename_i e;cases ht;have:=Nat.eq_of_beq_eq_true e;subst this;rw[hl,hg,hv]
 ·exact h t g2 v2 ht
theorem I9.put {X:XE}{L:Env}(h:I9 X L){k:Nat}{g:Gd}{v:XV}:I9 ((k,g,v)::X) ((k,g.d,v.d)::L):=by
 intro t g2 v2 ht
 unfold BL at ht
 split at ht
 ·rename_i e;cases ht;have:=Nat.eq_of_beq_eq_true e;subst this;rw[L5]
 ·rename_i e
  have:k≠t:=λ e'=>by subst e';rw[Nat.beq_refl]at e;cases e
  rw[I0 this];exact h t g2 v2 ht
theorem V7{tg:List (Nat×Tg)}{L:Env}: ∀ {ks:List Nat} {X X':XE} {E E':List Ck},LN tg L ks X E=some (X',E')->AG E'->(AG E->I9 X L)->I9 X' L/\AG E
 |[],X,X',E,E',h,hE,hX=>by simp only[LN,Option.some.injEq,Prod.mk.injEq]at h;obtain⟨rfl,rfl⟩:=h;exact⟨hX hE,hE⟩
 |k::ks,X,X',E,E',h,hE,hX=>by
  unfold LN at h
  split at h
  ·exact V7 h hE hX
  ·rename_i g v hl
   have go: ∀(x:XV),x.d=v->LN tg L ks ((k,.t,x)::X) (.b true g::E)=some (X',E')->I9 X' L/\AG E:=by
    intro x hx h2
    have:=V7 h2 hE λ hE2=>(hX λ c hc=>hE2 c (.tail _ hc)).cons hl (by have h3:g=true:=hE2 _ (.head _) U;rw[h3];rfl) hx
    exact⟨this.1,λ c hc=>this.2 c (.tail _ hc)⟩
   split at h
   ·exact go _ U h
   ·split at h
    ·exact go _ U h
    ·cases h
   ·exact V7 h hE λ hE2=>(hX hE2).cons hl U U
   ·exact go _ U h
theorem I9.gK {X:XE}{L:Env}(h:I9 X L){a:Act}{N:Nat}(hs:AK a N L):AK a N X.d:=
 ⟨hs.size,hs.CZ,λ t g v ht=>by
  obtain⟨g',v',h1,rfl,rfl⟩:=OS ht
  exact hs.val t _ _ (h t g' v' h1)⟩
def tm:Operand->List Nat->List Nat
 | .tmp k,r=>k::r
 |_,r=>r
def gL:Option Operand->List Nat->List Nat
 |some x,r=>tm x r
 |none,r=>r
def tmp:List (Nat×Operand)->List Nat->List Nat
 |[],r=>r
 |(_,x)::ps,r=>tm x (tmp ps r)
def u5:Op->List Nat->List Nat
 | .move x,r=>tm x r
 | .assign x,r=>tm x r
 | .pick c x y,r=>tm c (tm x (tm y r))
 | .binOp _ _ x y _,r=>tm x (tm y r)
 | .unOp _ _ x,r=>tm x r
 | .convert _ _ x,r=>tm x r
 | .slice _ x lo hi _,r=>tm x (gL lo (gL hi r))
 | .fieldAddr _ x _,r=>tm x r
 | .field _ x _,r=>tm x r
 | .indexAddr _ x y,r=>tm x (tm y r)
 | .index _ x y,r=>tm x (tm y r)
 | .load _ x,r=>tm x r
 | .extract x _,r=>tm x r
 | .build _ ⟨ps⟩,r=>tmp ps r
 | .call ⟨_,⟨[x]⟩,_⟩,r=>tm x r
 |_,r=>r
def u6(all:Array Oper)(gd:Option (Nat×Bool))(r:List Nat):List Nat:=
 match gd with
 |none=>r
 |some (j,_)=>match nth all.toList j with
  |some o=>match o.dst with
   |some d=>d::r
   |none=>r
  |none=>r
def gM(all:Array Oper):Nat->List Oper->List Nat
 |n+1,o::l=>u5 o.op (u6 all o.guard (gM all n l))
 |_,_=>[]
def V8:List XV->Option (List Value)
 |[]=>some []
 |x::l=>match V8 l with
  |some r=>match x with
   | .v u=>some (u::r)
   | .sl _ u=>some (u::r)
   |_=>none
  |none=>none
theorem gN: ∀ {l:List XV} {r:List Value},V8 l=some r->l.map XV.d0=r
 |[],r,h=>by cases h;rfl
 |x::l,r,h=>by
  unfold V8 at h
  split at h
  ·rename_i r' hr
   split at h<;>first|(cases h;simp[gN hr,XV.d0])|cases h
  ·cases h
def dV:XV->Option Value
 | .v u=>some u
 | .sl _ u=>some u
 | .el _ x sz i j=>match j with
  |0=>some (.pointer (some ⟨sb x,so x+i.toNat*sz,none⟩))
  |j+1=>some (.pointer (some ⟨sb x,so x+i.toNat*sz+(j+1),none⟩))
 | .bx _ b o=>some (.pointer (some ⟨b,o,none⟩))
 | .ag cs=>match V8 cs with
  |some r=>some (.agg ⟨r⟩)
  |none=>none
 | .tu _=>none
theorem u7{x:XV}{v:Value}(h:dV x=some v):x.d=v:=by
 cases x with
 |v u=>cases h;rfl
 |sl k u=>cases h;rfl
 |el k u sz i j=>cases j<;>(cases h;rfl)
 |bx k b o=>cases h;rfl
 |ag cs=>
  simp only[dV]at h
  split at h
  ·rename_i r hr;cases h;simp[XV.d,XV.d1,gN hr]
  ·cases h
 |tu vs=>cases h
def dE(
    L:Env):Nat->XE->Option Env
 |0,_=>some L
 |n+1,(k,g,v)::X=>match dE L n X with
  |some L'=>match dV v with
   |some u=>match g with
    | .t=>some ((k,true,u)::L')
    | .g b=>some ((k,b,u)::L')
   |none=>none
  |none=>none
 |_,_=>none
theorem gO{L:Env}: ∀ {n:Nat} {X:XE} {L':Env},dE L n X=some L'->(XE.d (X.take n))++L=L'
 |0,X,L',h=>by simp only[dE,Option.some.injEq]at h;subst h;rfl
 |n+1,[],L',h=>by cases h
 |n+1,(k,g,v)::X,L',h=>by
  unfold dE at h
  split at h
  ·rename_i L2 h2
   split at h
   ·rename_i u hu
    show(k,g.d,v.d)::(XE.d (X.take n)++L)=L'
    rw[gO h2,u7 hu]
    cases g<;>(cases h;rfl)
   ·cases h
  ·cases h
structure RR where
 l:List Oper
 L:Env
 O:Prop
 E:List Ck
def S8(W:Gd):List Prop->Prop->(Prop->Option RR)->Option RR
 |[],O,K=>K O
 |p::ps,O,K=>match W with
  | .t=>S8 W ps (p/\O) K
  | .g b=>S8 W ps ((b=false\/p)/\O) K
theorem Z0{W:Gd}{K:Prop->Option RR}: ∀ {ps:List Prop} {O:Prop},∃O',S8 W ps O K=K O'/\(O'->(W.d=true->HQ ps)/\O)
 |[],O=>⟨O,rfl,λ h=>⟨λ _=>trivial,h⟩⟩
 |p::ps,O=>by
  unfold S8
  cases W with
  |t=>
   obtain⟨O',h1,h2⟩:=Z0 (W:=.t) (K:=K) (ps:=ps) (O:=p/\O)
   exact⟨O',h1,λ h=>⟨λ hW=>⟨(h2 h).2.1,(h2 h).1 hW⟩,(h2 h).2.2⟩⟩
  |g b=>
   obtain⟨O',h1,h2⟩:=Z0 (W:=.g b) (K:=K) (ps:=ps) (O:=(b=false\/p)/\O)
   exact⟨O',h1,λ h=>⟨λ hW=>⟨(h2 h).2.1.resolve_left (by rw[show b=true from hW];decide),(h2 h).1 hW⟩,(h2 h).2.2⟩⟩
def Z1(
     all:Array Oper) (L:XE) (gd:Option (Nat×Bool)):Option Gd:=
 match gd with
 |none=>some .t
 |some (
     j,want)=>match nth all.toList j with
  |some o=>match o.dst with
   |some d=>match BL L d with
    |some (g,v)=>match LM v with
     |some b=>match want with
      |true=>match g with
       | .t=>some (.g b)
       | .g a=>some (.g (a&&b))
      |false=>match g with
       | .t=>some (.g (!b))
       | .g a=>some (.g (a&& !b))
     |none=>none
    |none=>none
   |none=>none
  |none=>none
theorem u9{all:Array Oper}{L:XE}{gd:Option (Nat×Bool)}{W:Gd}(h:Z1 all L gd=some W):D0 all L.d gd W.d:=by
 unfold Z1 at h
 split at h
 ·cases h;exact .none
 ·rename_i j want
  split at h
  ·rename_i o ho
   split at h
   ·rename_i d hd
    split at h
    ·rename_i g v hl
     split at h
     ·rename_i b hb
      have:=NV hb;subst this
      have hl':=HN hl
      have hj:(all[j]?).bind (·.dst)=some d:=by
       rw[H0]at ho
       simp only[Array.getElem?_toList]at ho
       rw[ho];exact hd
      split at h
      ·split at h<;>cases h
       ·exact .pos hj hl'
       ·exact .E4 hj hl'
      ·split at h<;>cases h
       ·exact .neg hj hl'
       ·exact .PC hj hl'
     ·cases h
    ·cases h
   ·cases h
  ·cases h
def runs(
     T:TT) (N:Nat) (F:List (Nat×Kn)) (H:List (Nat×HX)) (all:Array Oper) (L:Env):Nat->Nat->List Oper->XE->Prop->List Ck->Option RR
 |0,i,l,X,O,E=>match dE L i X with
  |some L'=>some ⟨l,L',O,E⟩
  |none=>none
 |n+1,i,l,X,O,E=>match l with
  |⟨some d,op,ty,ps,af,gd⟩::rest=>match Z1 all X gd with
   |some W=>match Q2 T F H X W op with
    |some (v,p,E')=>match Nat.blt d N with
     |true=>S8 W p O λ O'=>runs T N F H all L n (i+1) rest ((d,W,v)::X) O' (E'++E)
     |false=>none
    |none=>none
   |none=>none
  |_=>none
theorem PV.rep {P:Program}{C:World->Prop}{X:XE}{L:Env}{W:Bool}{o:Oper}{v:Value}(h:PV P C X.d W o v)(hr:I9 X L):PV P C L W o v:=λ a N hs hW w hw=>h a N (hr.gK hs) hW w hw
theorem gP{P:Program}{T:TT}(hT:EN P T){N:Nat}{F:List (Nat×Kn)}{H:List (Nat×HX)}{Hr:List HO}{w0 w:World}{M0 M:Mem}{C:World->Prop}{G:List Oper->Env->Prop}{all:Array Oper}{L:Env}(hF:BJ M F)(hS:St w0 M0 w M (HD H++Hr))(hC: ∀w',C w'->Ext w w')
  (hG: ∀ {d:Nat} {op:Op} {ty:TypeId} {ps:String} {af:Array Edge} {gd:Option (Nat×Bool)} {W:Bool} {v:Value} {rest:List Oper} {L:Env},D0 all L gd W->PV P C L W ⟨some d,op,ty,ps,af,gd⟩ v->Nat.blt d N=true->G rest ((d,W,v)::L)->G (⟨some d,op,ty,ps,af,gd⟩::rest) L):
  ∀ {n i:Nat} {l:List Oper} {X:XE} {O:Prop} {E:List Ck} {r:RR},runs T N F H all L n i l X O E=some r->r.O->AG r.E->G r.l r.L->(AG E->I9 X ((XE.d (X.take i))++L))->G l ((XE.d (X.take i))++L)/\O/\AG E
 |0,i,l,X,O,E,r,h,hO,hE,hn,hX=>by
  unfold runs at h
  split at h
  ·rename_i L' hL
   cases h
   rw[gO hL];exact⟨hn,hO,hE⟩
  ·cases h
 |n+1,i,l,X,O,E,r,h,hO,hE,hn,hX=>by
  unfold runs at h
  split at h
  ·rename_i d op ty ps af gd rest
   split at h
   ·rename_i W hW
    split at h
    ·rename_i v p E' hv
     split at h
     ·rename_i hd
      obtain⟨O',h1,h2⟩:=Z0 (W:=W) (K:=λ O'=>runs T N F H all L n (i+1) rest ((d,W,v)::X) O' (E'++E)) (ps:=p) (O:=O)
      rw[h1]at h
      obtain⟨r1,r2,r3⟩:=gP hT hF hS hC hG h hO hE hn (λ hE2=>(hX (AG.app hE2).2).put)
      obtain⟨hp,hO2⟩:=h2 r2
      have hX':=hX (AG.app r3).2
      exact⟨hG (λ a N hs=>u9 hW a N (hX'.gK hs)) ((S4 hT hF hS hC hv (AG.app r3).1 hp).rep hX') hd r1,hO2,(AG.app r3).2⟩
     ·cases h
    ·cases h
   ·cases h
  ·cases h
def hx:Nat->List HO->Option (List (Nat×HX)×List HO)
 |0,l=>some ([],l)
 |n+1,x::l=>match hx n l with
  |some (H,Hr)=>match x with
   | .box b cs t=>some ((n,.box b (MQ cs) t)::H,Hr)
   |y=>some ((n,.ho y)::H,Hr)
  |none=>none
 |_,_=>none
theorem gQ: ∀l:List Value,(MQ l).map XV.d0=l
 |[]=>rfl
 |x::l=>by simp[MQ,gQ l,XV.d0]
theorem Z2: ∀ {n:Nat} {l:List HO} {H:List (Nat×HX)} {Hr:List HO},hx n l=some (H,Hr)->HD H++Hr=l
 |0,l,H,Hr,h=>by simp only[hx,Option.some.injEq,Prod.mk.injEq]at h;obtain⟨rfl,rfl⟩:=h;rfl
 |n+1,[],H,Hr,h=>by cases h
 |n+1,x::l,H,Hr,h=>by
  unfold hx at h
  split at h
  ·rename_i H2 Hr2 h2
   split at h
   ·simp only[Option.some.injEq,Prod.mk.injEq]at h;obtain⟨rfl,rfl⟩:=h
    show(HX.box _ _ _).d::(HD H2++Hr2)=_
    rw[Z2 h2];simp[HX.d,gQ]
   ·simp only[Option.some.injEq,Prod.mk.injEq]at h;obtain⟨rfl,rfl⟩:=h
    show(HX.ho _).d::(HD H2++Hr2)=_
    rw[Z2 h2];rfl
  ·cases h
def OT(T:TT)(N:Nat)(F:List (Nat×Kn))(m:Nat)(Hs:List HO)(all:Array Oper)(tg:List (Nat×Tg))(n:Nat)(l:List Oper)(L:Env):Option RR:=
 match hx m Hs with
 |some (H,_)=>match LN tg L (gM all n l) [] []with
  |some (X,E)=>runs T N F H all L n 0 l X ((0:Int)=0) E
  |none=>none
 |none=>none
theorem Z3{P:Program}{T:TT}(hT:EN P T){N:Nat}{F:List (Nat×Kn)}{m n:Nat}{Hs:List HO}{w0 w:World}{M0 M:Mem}{C:World->Prop}{G:List Oper->Env->Prop}{all:Array Oper}{tg:List (Nat×Tg)}{l l':List Oper}{L L':Env}{O:Prop}{E:List Ck}(hF:BJ M F)(hS:St w0 M0 w M Hs)(hC: ∀w',C w'->Ext w w')
  (hG: ∀ {d:Nat} {op:Op} {ty:TypeId} {ps:String} {af:Array Edge} {gd:Option (Nat×Bool)} {W:Bool} {v:Value} {rest:List Oper} {L:Env},D0 all L gd W->PV P C L W ⟨some d,op,ty,ps,af,gd⟩ v->Nat.blt d N=true->G rest ((d,W,v)::L)->G (⟨some d,op,ty,ps,af,gd⟩::rest) L)
  (h:OT T N F m Hs all tg n l L=some ⟨l',L',O,E⟩) (hE:E.map Ck.diag=E) (hO:O) (hn:G l' L'):G l L:=by
 unfold OT at h
 split at h
 ·rename_i H Hr hH
  split at h
  ·rename_i X2 E2 h2
   have hnil:AG []->I9 [] L:=λ _ k g v h=>by cases h
   obtain⟨r1,r2,r3⟩:=gP (H:=H) (Hr:=Hr) hT hF (by rw[Z2 hH];exact hS) hC hG h hO (A0 hE) hn (λ hE2=>(V7 h2 hE2 hnil).1)
   exact r1
  ·cases h
 ·cases h
section
variable {P:Program} [tab:gI P] {N:Nat} {w0 w:World} {M0 M:Mem} {Q:Exit->Act->World->Prop} {all:Array Oper} {l l':List Oper} {L L':Env} {O:Prop} {E:List Ck} {F:List (Nat×Kn)} {Hs:List HO} {C:World->Prop} {post:Act->Prop}
theorem RL.x (n m:Nat)(tg:List (Nat×Tg))(hF:BJ M F)(hS:St w0 M0 w M Hs)(h:OT tab.T N F m Hs all tg n l L=some ⟨l',L',O,E⟩)(hE:E.map Ck.diag=E)(hO:O)(hn:RL P all Q N l' L' w):RL P all Q N l L w:=
 Z3 (G:=λ l L=>RL P all Q N l L w) tab.ok hF hS AX (λ h1 h2 h3 h4=>RL.v h1 h2 h3 h4) h hE hO hn
theorem H3(w:World):St w nM w nM []:=St.start ⟨λ _ _ _ h=>by cases h⟩
theorem RL.o (n:Nat)(tg:List (Nat×Tg))(h:OT tab.T N [] 0 [] all tg n l L=some ⟨l',L',O,E⟩)(hE:E.map Ck.diag=E)(hO:O)(hn:RL P all Q N l' L' w):RL P all Q N l L w:=RL.x n 0 tg AF (H3 w) h hE hO hn
theorem RL.p (n:Nat)(tg:List (Nat×Tg))(h:OT tab.T N [] 0 [] all tg n l L=some ⟨l',L',(0:Int)=0,E⟩)(hE:E.map Ck.diag=E)(hn:RL P all Q N l' L' w):RL P all Q N l L w:=RL.o n tg h hE U hn
theorem RQ.x (n m:Nat)(tg:List (Nat×Tg))(hF:BJ M F)(hS:St w0 M0 w M Hs)(h:OT tab.T N F m Hs all tg n l L=some ⟨l',L',O,E⟩)(hE:E.map Ck.diag=E)(hO:O)(hn:RQ P all (λ w'=>Ext w w') N post l' L'):RQ P all (λ w'=>Ext w w') N post l L:=
 Z3 (G:=λ l L=>RQ P all (λ w'=>Ext w w') N post l L) tab.ok hF hS (λ _ h=>h) (λ h1 h2 h3 h4=>RQ.v h1 h2 h3 h4) h hE hO hn
theorem RS.x {w1:World}(n m:Nat)(tg:List (Nat×Tg))(hF:BJ M F)(hS:St w0 M0 w1 M Hs)(h:OT tab.T N F m Hs all tg n l L=some ⟨l',L',O,E⟩)(hE:E.map Ck.diag=E)(hO:O)(hn:RS P all w1 N post l' L'):RS P all w1 N post l L:=
 Z3 (G:=λ l L=>RS P all w1 N post l L) tab.ok hF hS AX (λ h1 h2 h3 h4=>RS.v h1 h2 h3 h4) h hE hO hn
end
end Go.Eng
set_option maxRecDepth 100000
namespace Go.Proofs.YtmjpjbmeamnfpaaGreatDoor
open Go.Eng
def tt:TT:=[(0,⟨.any,1,false⟩),(1,⟨.any,1,false⟩),(2,⟨.int .i64,1,false⟩),(3,⟨.int .i64,1,false⟩),(4,⟨.bool,1,false⟩),(5,⟨.int .u8,1,false⟩),(6,⟨.int .u8,1,false⟩),(7,⟨.st [(0,1,false),(1,1,false),(2,1,false),(3,1,false)] [.int .i64 0,.int .i64 0,.bool false,.int .u8 0],4,true⟩),(8,⟨.st [(0,1,false),(1,1,false),(2,1,false),(3,1,false)] [.int .i64 0,.int .i64 0,.bool false,.int .u8 0],4,true⟩),(9,⟨.str,1,false⟩),(10,⟨.str,1,false⟩),(11,⟨.str,1,false⟩),(12,⟨.int .u64,1,false⟩),(13,⟨.st [(0,1,false),(1,1,false)] [.string ⟨⟨[]⟩⟩,.int .u64 0],2,true⟩),(14,⟨.st [(0,1,false),(1,1,false)] [.string ⟨⟨[]⟩⟩,.int .u64 0],2,true⟩),(15,⟨.any,1,false⟩),(16,⟨.any,1,false⟩),(17,⟨.any,1,false⟩),(18,⟨.st [(0,1,false)] [.pointer none],1,true⟩),(19,⟨.st [(0,1,false)] [.pointer none],1,true⟩),(20,⟨.any,1,false⟩),(21,⟨.int .i32,1,false⟩),(22,⟨.row 51 11,1,false⟩),(23,⟨.row 51 11,1,false⟩),(24,⟨.any,1,false⟩),(25,⟨.any,1,false⟩),(26,⟨.int .i64,1,false⟩),(27,⟨.any,1,false⟩),(28,⟨.any,1,false⟩),(29,⟨.any,1,false⟩),(30,⟨.any,1,false⟩),(31,⟨.any,1,false⟩),(32,⟨.row 9 1,1,false⟩),(33,⟨.any,1,false⟩),(34,⟨.any,1,false⟩),(35,⟨.row 48 11,1,false⟩),(36,⟨.row 48 11,1,false⟩),(37,⟨.any,1,false⟩),(38,⟨.any,1,false⟩),(39,⟨.any,1,false⟩),(40,⟨.any,1,false⟩),(41,⟨.any,1,false⟩),(42,⟨.any,1,false⟩),(43,⟨.row 36 1,1,false⟩),(44,⟨.any,1,false⟩),(45,⟨.st [(0,1,false),(1,1,false),(2,1,false),(3,1,false),(4,1,false),(5,1,false)] [.int .i64 0,.int .i64 0,.string ⟨⟨[]⟩⟩,.string ⟨⟨[]⟩⟩,.bool false,.int .i64 0],6,true⟩),(46,⟨.st [(0,1,false),(1,1,false),(2,1,false),(3,1,false),(4,1,false),(5,1,false)] [.int .i64 0,.int .i64 0,.string ⟨⟨[]⟩⟩,.string ⟨⟨[]⟩⟩,.bool false,.int .i64 0],6,true⟩),(47,⟨.st [(0,1,false),(1,1,false),(2,1,false),(3,1,false),(4,1,false),(5,6,true)] [.int .i64 0,.int .i64 0,.string ⟨⟨[]⟩⟩,.string ⟨⟨[]⟩⟩,.int .i64 0,.int .i64 0,.int .i64 0,.string ⟨⟨[]⟩⟩,.string ⟨⟨[]⟩⟩,.bool false,.int .i64 0],11,true⟩),(48,⟨.st [(0,1,false),(1,1,false),(2,1,false),(3,1,false),(4,1,false),(5,6,true)] [.int .i64 0,.int .i64 0,.string ⟨⟨[]⟩⟩,.string ⟨⟨[]⟩⟩,.int .i64 0,.int .i64 0,.int .i64 0,.string ⟨⟨[]⟩⟩,.string ⟨⟨[]⟩⟩,.bool false,.int .i64 0],11,true⟩),(49,⟨.any,1,false⟩),(50,⟨.st [(0,1,false),(1,1,false),(2,1,false),(3,1,false),(4,1,false),(5,6,true)] [.int .i64 0,.int .i64 0,.string ⟨⟨[]⟩⟩,.string ⟨⟨[]⟩⟩,.int .i64 0,.int .i64 0,.int .i64 0,.string ⟨⟨[]⟩⟩,.string ⟨⟨[]⟩⟩,.bool false,.int .i64 0],11,true⟩),(51,⟨.st [(0,1,false),(1,1,false),(2,1,false),(3,1,false),(4,1,false),(5,6,true)] [.int .i64 0,.int .i64 0,.string ⟨⟨[]⟩⟩,.string ⟨⟨[]⟩⟩,.int .i64 0,.int .i64 0,.int .i64 0,.string ⟨⟨[]⟩⟩,.string ⟨⟨[]⟩⟩,.bool false,.int .i64 0],11,true⟩),(52,⟨.row 63 9,1,false⟩),(53,⟨.any,1,false⟩),(54,⟨.any,1,false⟩),(55,⟨.st [(0,1,false),(1,1,false)] [.int .i64 0,.int .i64 0],2,true⟩),(56,⟨.st [(0,1,false),(1,1,false)] [.int .i64 0,.int .i64 0],2,true⟩),(57,⟨.any,1,false⟩),(58,⟨.any,1,false⟩),(59,⟨.st [(0,1,false),(1,1,false),(2,1,false)] [.slice none 0 0,.int .i64 0,.int .i64 0],3,true⟩),(60,⟨.st [(0,1,false),(1,1,false),(2,1,false)] [.slice none 0 0,.int .i64 0,.int .i64 0],3,true⟩),(61,⟨.any,1,false⟩),(62,⟨.st [(0,1,false),(1,1,false),(2,6,true),(8,1,false)] [.int .i64 0,.string ⟨⟨[]⟩⟩,.int .i64 0,.int .i64 0,.string ⟨⟨[]⟩⟩,.string ⟨⟨[]⟩⟩,.bool false,.int .i64 0,.int .i64 0],9,true⟩),(63,⟨.st [(0,1,false),(1,1,false),(2,6,true),(8,1,false)] [.int .i64 0,.string ⟨⟨[]⟩⟩,.int .i64 0,.int .i64 0,.string ⟨⟨[]⟩⟩,.string ⟨⟨[]⟩⟩,.bool false,.int .i64 0,.int .i64 0],9,true⟩),(64,⟨.any,1,false⟩),(65,⟨.any,1,false⟩),(66,⟨.any,1,false⟩),(67,⟨.st [(0,1,false),(1,1,false),(2,1,false)] [.bool false,.string ⟨⟨[]⟩⟩,.int .i64 0],3,true⟩),(68,⟨.st [(0,1,false),(1,1,false),(2,1,false)] [.bool false,.string ⟨⟨[]⟩⟩,.int .i64 0],3,true⟩),(69,⟨.row 68 3,1,false⟩),(70,⟨.row 68 3,1,false⟩),(71,⟨.any,1,false⟩),(72,⟨.row 23 1,1,false⟩),(73,⟨.any,1,false⟩),(74,⟨.any,1,false⟩),(75,⟨.any,1,false⟩),(76,⟨.any,1,false⟩),(77,⟨.any,1,false⟩),(78,⟨.any,1,false⟩),(79,⟨.any,1,false⟩),(80,⟨.any,1,false⟩),(81,⟨.st [(0,1,false),(1,1,false)] [.int .i64 0,.int .i64 0],2,true⟩),(82,⟨.st [(0,1,false),(1,1,false)] [.int .i64 0,.int .i64 0],2,true⟩),(83,⟨.any,1,false⟩),(84,⟨.any,1,false⟩),(85,⟨.st [(0,1,false),(1,1,false),(2,1,false)] [.slice none 0 0,.int .i64 0,.int .i64 0],3,true⟩),(86,⟨.st [(0,1,false),(1,1,false),(2,1,false)] [.slice none 0 0,.int .i64 0,.int .i64 0],3,true⟩),(87,⟨.any,1,false⟩),(88,⟨.any,1,false⟩),(89,⟨.any,1,false⟩),(90,⟨.st [] [],0,true⟩),(91,⟨.st [] [],0,true⟩),(92,⟨.st [] [],0,true⟩),(93,⟨.int .u32,1,false⟩),(94,⟨.any,1,true⟩),(95,⟨.any,1,true⟩),(96,⟨.st [(0,1,false),(1,1,false)] [.int .i32 0,.int .u32 0],2,true⟩),(97,⟨.st [(0,1,false),(1,1,false)] [.int .i32 0,.int .u32 0],2,true⟩),(98,⟨.any,2,true⟩),(99,⟨.any,2,true⟩),(100,⟨.any,3,true⟩),(101,⟨.any,3,true⟩),(102,⟨.any,1,false⟩),(103,⟨.st [(0,3,true),(3,1,false)] [.int .u32 0,.int .i32 0,.int .u32 0,.map none],4,true⟩),(104,⟨.st [(0,3,true),(3,1,false)] [.int .u32 0,.int .i32 0,.int .u32 0,.map none],4,true⟩),(105,⟨.any,1,false⟩),(106,⟨.any,1,false⟩),(107,⟨.any,1,false⟩),(108,⟨.any,1,false⟩),(109,⟨.any,1,false⟩),(110,⟨.row 5 1,1,false⟩),(111,⟨.any,1,false⟩),(112,⟨.any,1,false⟩),(113,⟨.any,1,false⟩),(114,⟨.st [(0,1,false),(1,6,true)] [.int .i64 0,.int .i64 0,.int .i64 0,.string ⟨⟨[]⟩⟩,.string ⟨⟨[]⟩⟩,.bool false,.int .i64 0],7,true⟩),(115,⟨.st [(0,1,false),(1,6,true)] [.int .i64 0,.int .i64 0,.int .i64 0,.string ⟨⟨[]⟩⟩,.string ⟨⟨[]⟩⟩,.bool false,.int .i64 0],7,true⟩),(116,⟨.any,1,false⟩),(117,⟨.any,1,false⟩),(118,⟨.any,1,false⟩),(119,⟨.any,1,false⟩),(120,⟨.row 115 7,1,false⟩),(121,⟨.any,1,false⟩),(122,⟨.any,1,false⟩),(123,⟨.any,1,false⟩),(124,⟨.any,1,false⟩),(125,⟨.any,256,true⟩),(126,⟨.any,256,true⟩),(127,⟨.any,1,false⟩),(128,⟨.any,1,false⟩),(129,⟨.any,1,false⟩),(130,⟨.any,1,false⟩),(131,⟨.any,1,false⟩),(132,⟨.any,1,false⟩),(133,⟨.any,1,false⟩),(134,⟨.any,1,false⟩),(135,⟨.any,1,false⟩),(136,⟨.any,1,false⟩),(137,⟨.any,1,false⟩),(138,⟨.any,1,false⟩),(139,⟨.any,1,false⟩),(140,⟨.any,1,false⟩),(141,⟨.any,1,false⟩),(142,⟨.any,1,false⟩),(143,⟨.any,1,false⟩),(144,⟨.any,1,false⟩),(145,⟨.any,1,false⟩),(146,⟨.any,1,false⟩),(147,⟨.any,1,false⟩),(148,⟨.any,1,false⟩),(149,⟨.any,1,false⟩),(150,⟨.any,1,false⟩),(151,⟨.any,1,false⟩),(152,⟨.any,1,false⟩),(153,⟨.row 46 6,1,false⟩),(154,⟨.row 46 6,1,false⟩),(155,⟨.any,1,false⟩),(156,⟨.any,1,false⟩),(157,⟨.any,1,false⟩),(158,⟨.any,1,false⟩),(159,⟨.any,1,false⟩),(160,⟨.any,1,false⟩),(161,⟨.any,1,false⟩),(162,⟨.st [(0,1,false),(1,1,false)] [.pointer none,.slice none 0 0],2,true⟩),(163,⟨.st [(0,1,false),(1,1,false)] [.pointer none,.slice none 0 0],2,true⟩),(164,⟨.any,1,false⟩),(165,⟨.any,1,false⟩),(166,⟨.any,1,false⟩),(167,⟨.any,1,false⟩),(168,⟨.any,1,false⟩),(169,⟨.any,1,false⟩),(170,⟨.any,1,false⟩),(171,⟨.any,1,false⟩),(172,⟨.any,1,false⟩),(173,⟨.any,1,false⟩),(174,⟨.any,1,false⟩),(175,⟨.any,1,false⟩),(176,⟨.any,1,false⟩),(177,⟨.any,1,false⟩),(178,⟨.any,1,false⟩),(179,⟨.any,1,false⟩),(180,⟨.any,1,false⟩),(181,⟨.any,1,false⟩),(182,⟨.any,1,false⟩),(183,⟨.any,1,false⟩),(184,⟨.any,1,false⟩),(185,⟨.any,1,false⟩),(186,⟨.any,1,false⟩),(187,⟨.any,1,false⟩),(188,⟨.any,1,false⟩),(189,⟨.any,1,false⟩),(190,⟨.any,1,false⟩),(191,⟨.any,1,false⟩),(192,⟨.int .u64,1,false⟩),(193,⟨.any,1,false⟩),(194,⟨.any,1,false⟩),(195,⟨.any,1,false⟩),(196,⟨.any,1,false⟩),(197,⟨.any,1,false⟩),(198,⟨.any,1,false⟩),(199,⟨.any,1,false⟩),(200,⟨.any,1,false⟩),(201,⟨.any,1,false⟩),(202,⟨.any,1,false⟩),(203,⟨.any,256,true⟩),(204,⟨.any,1,false⟩),(205,⟨.any,1,false⟩),(206,⟨.any,1,false⟩),(207,⟨.any,1,false⟩),(208,⟨.any,1,false⟩),(209,⟨.any,1,false⟩),(210,⟨.any,1,false⟩),(211,⟨.any,1,false⟩),(212,⟨.any,1,false⟩),(213,⟨.any,1,false⟩),(214,⟨.any,1,false⟩),(215,⟨.any,1,false⟩),(216,⟨.any,1,false⟩),(217,⟨.any,1,false⟩),(218,⟨.any,1,false⟩),(219,⟨.any,1,false⟩),(220,⟨.any,1,false⟩),(221,⟨.any,1,false⟩),(222,⟨.int .i64,1,false⟩),(223,⟨.any,1,false⟩),(224,⟨.any,1,false⟩),(225,⟨.any,1,false⟩),(226,⟨.any,1,false⟩),(227,⟨.any,1,false⟩),(228,⟨.any,1,false⟩),(229,⟨.any,1,false⟩),(230,⟨.int .u64,1,false⟩),(231,⟨.st [(0,1,false),(1,1,false)] [.int .u8 0,.int .u8 0],2,true⟩),(232,⟨.st [(0,1,false),(1,1,false)] [.int .u8 0,.int .u8 0],2,true⟩),(233,⟨.any,32,true⟩),(234,⟨.any,1,false⟩),(235,⟨.any,1,false⟩),(236,⟨.any,1,false⟩),(237,⟨.any,1,false⟩),(238,⟨.any,1,false⟩),(239,⟨.any,1,false⟩),(240,⟨.any,1,false⟩),(241,⟨.any,1,false⟩),(242,⟨.any,1,false⟩),(243,⟨.row 245 2,1,false⟩),(244,⟨.st [(0,1,false),(1,1,false)] [.int .i64 0,.int .i64 0],2,true⟩),(245,⟨.st [(0,1,false),(1,1,false)] [.int .i64 0,.int .i64 0],2,true⟩),(246,⟨.any,1,false⟩),(247,⟨.any,1,false⟩),(248,⟨.int .i64,1,false⟩),(249,⟨.any,1,false⟩),(250,⟨.any,1,false⟩),(251,⟨.any,1,false⟩),(252,⟨.any,1,false⟩),(253,⟨.any,1,false⟩),(254,⟨.any,1,false⟩),(255,⟨.any,1,false⟩),(256,⟨.any,1,false⟩),(257,⟨.any,1,false⟩),(258,⟨.any,1,false⟩),(259,⟨.any,1,false⟩),(260,⟨.any,1,false⟩),(261,⟨.any,1,false⟩),(262,⟨.any,1,false⟩),(263,⟨.any,1,false⟩),(264,⟨.any,1,false⟩),(265,⟨.int .u64,1,false⟩),(266,⟨.any,1,false⟩),(267,⟨.any,1,false⟩),(268,⟨.any,1,false⟩),(269,⟨.any,1,false⟩),(270,⟨.any,1,false⟩),(271,⟨.any,1,false⟩),(272,⟨.any,1,false⟩),(273,⟨.any,1,false⟩),(274,⟨.row 280 3,1,false⟩),(275,⟨.row 283 3,1,false⟩),(276,⟨.st [(0,1,false),(1,1,false),(2,1,false)] [.slice none 0 0,.slice none 0 0,.int .i64 0],3,true⟩),(277,⟨.st [(0,1,false),(1,1,false),(2,1,false)] [.slice none 0 0,.slice none 0 0,.int .i64 0],3,true⟩),(278,⟨.int .u16,1,false⟩),(279,⟨.st [(0,1,false),(1,1,false),(2,1,false)] [.int .u16 0,.int .u16 0,.int .u16 0],3,true⟩),(280,⟨.st [(0,1,false),(1,1,false),(2,1,false)] [.int .u16 0,.int .u16 0,.int .u16 0],3,true⟩),(281,⟨.any,1,false⟩),(282,⟨.st [(0,1,false),(1,1,false),(2,1,false)] [.int .u32 0,.int .u32 0,.int .u32 0],3,true⟩),(283,⟨.st [(0,1,false),(1,1,false),(2,1,false)] [.int .u32 0,.int .u32 0,.int .u32 0],3,true⟩),(284,⟨.any,1,false⟩),(285,⟨.st [(0,1,false),(1,1,false),(2,1,false)] [.string ⟨⟨[]⟩⟩,.string ⟨⟨[]⟩⟩,.nilIface],3,true⟩),(286,⟨.st [(0,1,false),(1,1,false),(2,1,false)] [.string ⟨⟨[]⟩⟩,.string ⟨⟨[]⟩⟩,.nilIface],3,true⟩),(287,⟨.any,1,false⟩),(288,⟨.any,1,false⟩),(289,⟨.any,1,false⟩),(290,⟨.any,1,false⟩),(291,⟨.any,1,false⟩),(292,⟨.any,1,false⟩),(293,⟨.any,1,false⟩),(294,⟨.any,1,false⟩),(295,⟨.any,1,false⟩),(296,⟨.any,1,false⟩),(297,⟨.any,1,false⟩),(298,⟨.any,1,false⟩),(299,⟨.any,1,false⟩),(300,⟨.any,1,false⟩),(301,⟨.any,1,false⟩),(302,⟨.any,1,false⟩),(303,⟨.any,1,false⟩),(304,⟨.any,1,false⟩),(305,⟨.any,1,false⟩),(306,⟨.st [(0,1,false)] [.string ⟨⟨[]⟩⟩],1,true⟩),(307,⟨.st [(0,1,false)] [.string ⟨⟨[]⟩⟩],1,true⟩),(308,⟨.any,1,false⟩),(309,⟨.any,1,false⟩),(310,⟨.any,1,false⟩),(311,⟨.any,1,false⟩),(312,⟨.any,1,false⟩),(313,⟨.any,1,false⟩),(314,⟨.any,1,false⟩),(315,⟨.any,1,false⟩),(316,⟨.any,1,false⟩),(317,⟨.any,1,false⟩),(318,⟨.any,1,false⟩),(319,⟨.any,1,false⟩),(320,⟨.any,1,false⟩),(321,⟨.any,1,false⟩),(322,⟨.any,1,false⟩),(323,⟨.any,1,false⟩),(324,⟨.any,1,false⟩),(325,⟨.any,24,true⟩),(326,⟨.any,1,false⟩),(327,⟨.any,1,false⟩),(328,⟨.any,1,false⟩),(329,⟨.any,1,false⟩),(330,⟨.any,20,true⟩),(331,⟨.any,65,true⟩),(332,⟨.st [(0,1,false),(1,1,false),(2,1,false),(3,1,false)] [.int .i64 0,.int .i64 0,.bool false,.string ⟨⟨[]⟩⟩],4,true⟩),(333,⟨.st [(0,1,false),(1,1,false),(2,1,false),(3,1,false)] [.int .i64 0,.int .i64 0,.bool false,.string ⟨⟨[]⟩⟩],4,true⟩),(334,⟨.row 333 4,1,false⟩),(335,⟨.any,1,false⟩),(336,⟨.any,1,false⟩),(337,⟨.any,1,false⟩),(338,⟨.any,1,false⟩),(339,⟨.any,32,true⟩),(340,⟨.any,64,true⟩),(341,⟨.st [(0,1,false),(1,1,false),(2,1,false),(3,1,false)] [.pointer none,.pointer none,.pointer none,.string ⟨⟨[]⟩⟩],4,true⟩),(342,⟨.st [(0,1,false),(1,1,false),(2,1,false),(3,1,false)] [.pointer none,.pointer none,.pointer none,.string ⟨⟨[]⟩⟩],4,true⟩),(343,⟨.any,0,true⟩),(344,⟨.any,0,true⟩),(345,⟨.any,0,true⟩),(346,⟨.int .u8,1,false⟩),(347,⟨.int .u8,1,false⟩),(348,⟨.any,1,false⟩),(349,⟨.int .i32,1,false⟩),(350,⟨.int .i32,1,false⟩),(351,⟨.st [(0,1,false),(1,1,false),(2,1,false),(3,1,false),(4,1,false),(5,1,false),(6,1,false),(7,1,false),(8,1,false),(9,1,false),(10,1,false)] [.int .u64 0,.int .u64 0,.int .u32 0,.int .u8 0,.int .u8 0,.int .u8 0,.int .u8 0,.nilFunc,.pointer none,.int .i32 0,.int .i32 0],11,true⟩),(352,⟨.st [(0,1,false),(1,1,false),(2,1,false),(3,1,false),(4,1,false),(5,1,false),(6,1,false),(7,1,false),(8,1,false),(9,1,false),(10,1,false)] [.int .u64 0,.int .u64 0,.int .u32 0,.int .u8 0,.int .u8 0,.int .u8 0,.int .u8 0,.nilFunc,.pointer none,.int .i32 0,.int .i32 0],11,true⟩)]
theorem B3:EN Tryz.prog tt:=gH (by decide+kernel)
instance:gI Tryz.prog:=⟨tt,B3⟩
end Go.Proofs.YtmjpjbmeamnfpaaGreatDoor
namespace Go.Eng
open Go.RowKit
theorem gR{P:Program}{σ:Type}{x:Code}{Q:Exit->Act->World->Prop}{a:Act}{w:World}(J:σ->Act->World->Prop)(μ:σ->Nat)(s₀:σ)(h₀:J s₀ a w)
  (round: ∀s a w,J s a w->x.wp P (Exit.then (λ a' w'=> ∃s',J s' a' w'/\μ s'<μ s) Q) a w):(Code.loop x).wp P Q a w:=by
 intro b k cs
 have key: ∀n s a w,μ s=n->J s a w->
   ∃e a' w',Q e a' w'/\Arrives P (lone (b.at a (.code x:: .inLoop x::k)) cs w) b k cs e a' w':=by
  intro n
  induction n using Nat.strongRecOn with
  |_ n ih=>
   intro s a w hn hJ
   obtain⟨e,a₁,w₁,hq,harr⟩:=round s a w hJ b (.inLoop x::k) cs
   cases e with
   |normal=>
    obtain⟨s',hJ',hlt⟩:=hq
    obtain⟨e₂,a₂,w₂,hq₂,harr₂⟩:=ih (μ s') (hn▸hlt) s' a₁ w₁ rfl hJ'
    exact⟨e₂,a₂,w₂,hq₂,.of_steps (Steps.trans harr (.one step_inLoop)) harr₂⟩
   |exit id=>exact⟨_,a₁,w₁,hq,.pass (x:=.inLoop x) U (λ _ _=>.inl (by simp)) harr⟩
   |goto l=>exact⟨_,a₁,w₁,hq,.pass (x:=.inLoop x) U (λ _ _=>.inl (by simp)) harr⟩
   |ret=>exact⟨_,a₁,w₁,hq,.pass (x:=.inLoop x) U (λ _ _=>.inl (by simp)) harr⟩
   |panic ch=>exact⟨_,a₁,w₁,hq,.pass (x:=.inLoop x) U (λ _ _=>.inl (by simp)) harr⟩
   |outgrown=>exact⟨_,a₁,w₁,hq,.pass (x:=.inLoop x) U (λ _ _=>.inl (by simp)) harr⟩
 obtain⟨e,a',w',hq,harr⟩:=key _ s₀ a w rfl h₀
 exact⟨e,a',w',hq,.of_steps (.one step_loop) harr⟩
theorem S9{P:Program}{o:Oper}{a:Act}{w:World}{K K':Act->World->Prop}{Q:Exit->Act->World->Prop}(h:o.wp P a w K' (Exit.then K Q)):o.wp P a w K' Q:=by
 unfold Oper.wp at*
 generalize (execOp a.eval o).run P w=r at*
 cases r with
 |ok n w'=>cases n<;>first|exact h|(simp only[Oper.upon]at h ⊢;exact h)
 |halt s w'=>cases s<;>first|exact h|(simp only[Oper.upon]at h ⊢;exact h)
def DH:Code->Bool
 | .skip=>true
 | .seq x y=>DH x&&DH y
 | .cond _ x y=>DH x&&DH y
 | .loop x=>DH x
 | .block _ x=>DH x
 | .region _ ops d=> !d&&ops.toList.all λ o=>match o.op with
  | .defer _=>false
  |_=>true
 | .exit _=>true
 | .ret=>true
 |_=>false
structure Wk (P:Program)where
 wp:Code->(Exit->Act->World->Prop)->Act->World->Prop
 list:Array Oper->(Exit->Act->World->Prop)->List Oper->Act->World->Prop
 mono: ∀ {x:Code} {Q Q':Exit->Act->World->Prop} {a:Act} {w:World},wp x Q a w->(∀e a w,Q e a w->Q' e a w)->wp x Q' a w
 skip: ∀ {Q:Exit->Act->World->Prop} {a:Act} {w:World},Q .normal a w->wp .skip Q a w
 seq: ∀ {x y:Code} {Q:Exit->Act->World->Prop} {a:Act} {w:World},wp x (Exit.then (wp y Q) Q) a w->wp (.seq x y) Q a w
 region: ∀ {id:Nat} {ops:Array Oper} {Q:Exit->Act->World->Prop} {a:Act} {w:World},list ops Q ops.toList a w->wp (.region id ops false) Q a w
 draw: ∀ {id:Nat} {ops:Array Oper} {Q:Exit->Act->World->Prop} {a:Act} {w:World},(Code.region id ops true).wp P Q a w->wp (.region id ops true) Q a w
 block: ∀ {id:Nat} {x:Code} {Q:Exit->Act->World->Prop} {a:Act} {w:World},wp x (Exit.inBlock id Q) a w->wp (.block id x) Q a w
 scope: ∀ {x:Code} {Q:Exit->Act->World->Prop} {a:Act} {w:World},wp x (Exit.noGoto Q) a w->wp (.scope x) Q a w
 exit: ∀ {id:Nat} {Q:Exit->Act->World->Prop} {a:Act} {w:World},Q (.exit id) a w->wp (.exit id) Q a w
 ret: ∀ {Q:Exit->Act->World->Prop} {a:Act} {w:World},Q .ret a w->wp .ret Q a w
 cond: ∀ {o:Operand} {x y:Code} {t:Bool} {Q:Exit->Act->World->Prop} {a:Act} {w:World},a.eval o= .bool t->wp (if t=true then x else y) Q a w->wp (.cond o x y) Q a w
 loop: ∀ {σ:Type} {x:Code} {Q:Exit->Act->World->Prop} {a:Act} {w:World} (J:σ->Act->World->Prop) (μ:σ->Nat) (s₀:σ),J s₀ a w->
  (∀s a w,J s a w->wp x (Exit.then (λ a' w'=> ∃s',J s' a' w'/\μ s'<μ s) Q) a w)->wp (.loop x) Q a w
 nil: ∀ {ops:Array Oper} {Q:Exit->Act->World->Prop} {a:Act} {w:World},Q .normal a w->list ops Q [] a w
 one: ∀ {ops:Array Oper} {Q:Exit->Act->World->Prop} {o:Oper} {rest:List Oper} {a:Act} {w:World},wpList P ops (Exit.then (list ops Q rest) Q) [o] a w->list ops Q (o::rest) a w
 want: ∀ {ops:Array Oper} {Q:Exit->Act->World->Prop} {d:Option Tmp} {op:Op} {ty:TypeId} {ps:String} {af:Array Edge} {gd:Option (Nat×Bool)} {rest:List Oper} {a:Act} {w:World},
  Region.wanted ⟨d,op,ty,ps,af,gd⟩ (yielded ops a.tmps)=true->list ops Q (⟨d,op,ty,ps,af,none⟩::rest) a w->list ops Q (⟨d,op,ty,ps,af,gd⟩::rest) a w
def Wk.wide (P:Program):Wk P where
 wp:=λ x Q a w=>x.wp P Q a w
 list:=λ ops Q l a w=>wpList P ops Q l a w
 mono:=wp_mono
 skip:=wp_skip
 seq:=wp_seq
 region:=wp_region_list
 draw:=id
 block:=wp_block
 scope:=wp_scope_straight
 exit:=wp_exit
 ret:=wp_ret
 cond:=wp_cond
 loop:=gR
 nil:=wpList_nil
 one:=λ{ops Q o rest a w} h=>by
  unfold wpList at h ⊢
  split at h
  ·rename_i hw;rw[if_pos hw]
   rcases h with h|⟨h1,a',w',h2⟩
   ·exact .inl (S9 h)
   ·exact .inr ⟨h1,a',w',h2⟩
  ·rename_i hw;rw[if_neg hw];exact h
 want:=λ{ops Q d op ty ps af gd rest a w} hw h=>by
  unfold wpList at h ⊢
  rw[hw,if_pos U]
  rw[show Region.wanted ⟨d,op,ty,ps,af,none⟩ (yielded ops a.tmps)=true from rfl,if_pos U]at h
  exact h
theorem Wk.back {P:Program}(W:Wk P){ops:Array Oper}{Q:Exit->Act->World->Prop}{rest:List Oper}{a:Act}{w:World}(h:W.list ops Q rest a w):wpList P ops (Exit.then (W.list ops Q rest) Q) [] a w:=h
end Go.Eng
