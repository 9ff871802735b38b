/- Lemmas for the card. -/
import Derived.Test.YtnoegalemkbbbaaGreatDoorKt4
import Derived.LoopIn
import Derived.RangeFuncCalls
set_option linter.unusedVariables false
set_option linter.unusedSimpArgs false
set_option maxRecDepth 100000
namespace Go.Eng
open Go.RowKit
abbrev FR(ro:Option Nat):Fence:= { Fence.wide with round:=ro}
theorem AF1{n:Nat}{P:Program}{row:String}{args:Array Value}{w:World}{R:Value->World->Prop}(h:Rows P row args w R):RowsIn Fence.wide n P row args w R:=
 λ c cs _=>let⟨v,w',r,s⟩:=h c cs;⟨v,w',r,stepsIn_wide.2 s⟩
def MG(o:Oper):Bool:=match o.op with
 | .defer _=>false
 |_=>true
theorem AF2{o:Oper}(h:MG o=true): ∀c,o.op≠ .defer c:=λ c e=>by unfold MG at h;rw[e]at h;cases h
theorem S1{K:Act->World->Prop}{Q:Exit->Act->World->Prop}(h: ¬LetsOut Q): ¬LetsOut (Exit.then K Q):=λ⟨a,w,x⟩=>h ⟨a,w,x⟩
theorem AF3{id:Nat}{Q:Exit->Act->World->Prop}(h: ¬LetsOut Q): ¬LetsOut (Exit.inBlock id Q):=λ⟨a,w,x⟩=>h ⟨a,w,x⟩
theorem mI{P:Program}{ro:Option Nat}{n:Nat}{o:Oper}{a:Act}{w:World}{K:Act->World->Prop}{Q:Exit->Act->World->Prop}(hd:MG o=true)(h:o.wp P a w K Q):o.wpIn (FR ro) n P a w K Q:=by
 refine⟨λ _ _=>trivial,?_⟩
 rw[show(FR ro).round=ro from rfl,show Oper.semAt ro a.eval o=execOp a.eval o by cases ro with|none=>rfl|some l=>exact Oper.semAt_some l a.eval o (AF2 hd)]
 unfold Oper.wp at h
 generalize (execOp a.eval o).run P w=r at*
 have e:((FR ro).depth.isSome=true->1<=n):=λ h=>by cases h
 cases r with
 |ok x w'=>
  cases x with
  |enter f args=>exact⟨e,callsIn_wide.2 h⟩
  |row r args=>exact⟨e,AF1 h⟩
  |round i f t vs b=>exact absurd h (by simp[Oper.upon])
  |_=>exact h
 |halt s w'=>cases s<;>exact h
theorem WZ{P:Program}{ro:Option Nat}{n:Nat}{ops:Array Oper}{Q:Exit->Act->World->Prop}(hl: ¬LetsOut Q)(hd:ops.toList.all MG=true): ∀(l:List Nat) (a:Act) (w:World),wpOps P ops Q l a w->wpOpsIn (FR ro) n P ops Q l a w
 |[],a,w,h=>h
 |i::l,a,w,h=>by
  unfold wpOps at h
  unfold wpOpsIn
  cases ho:ops[i]? with
  |none=>rw[ho]at h;exact WZ hl hd l a w h
  |some o=>
   rw[ho]at h
   dsimp only at h ⊢
   split at h
   ·rename_i hw;rw[if_pos hw]
    rcases h with h|⟨_,e⟩
    ·have b:MG o=true:=List.all_eq_true.1 hd o (by rw[Array.mem_toList_iff];exact Array.mem_of_getElem? ho)
     exact mI b (Oper.wp_mono (λ a w k=>WZ hl hd l a w k) h)
    ·exact absurd e hl
   ·rename_i hw;rw[if_neg hw]
    exact⟨λ _ _=>trivial,WZ hl hd l _ w h⟩
def Wk.S2 (P:Program)(ro:Option Nat)(n:Nat):Wk P where
 wp:=λ x Q a w=> ¬LetsOut Q->DC x=true->x.wpIn (FR ro) n P Q a w
 list:=λ ops Q rest a w=> ¬LetsOut Q->rest.all MG=true->wpListIn (FR ro) n P ops Q rest a w
 mono:=λ h hq hl hs=>wpIn_mono (h (λ⟨a,w,x⟩=>hl ⟨a,w,hq _ _ _ x⟩) hs) hq
 skip:=λ h _ _=>wpIn_skip h
 seq:=λ{x y Q a w} h hl hs=>by
  have hs2:DC x=true/\DC y=true:=by simpa[DC]using hs
  refine wpIn_seq (wpIn_mono (h (S1 hl) hs2.1) λ e a w q=>?_)
  exact RZ (λ a w k=>k hl hs2.2) (λ _ _ _ h=>h) e a w q
 region:=λ{id ops Q a w} h hl hs=>by
  have hs2:ops.toList.all MG=true:=by
   simp only[DC]at hs
   exact hs
  exact wpIn_region_list (h hl hs2)
 plain:=False
 draw:=λ h=>h.elim
 drawS:=λ{id ops Q a w} h hl hs=>by
  have hs2:ops.toList.all MG=true:=by
   simp only[DC]at hs
   exact hs
  exact wpIn_region_draw λ t=>WZ hl hs2 _ a _ (h t)
 block:=λ h hl hs=>wpIn_block (h (AF3 hl) hs)
 scope:=λ h hl hs=>by simp[DC]at hs
 exit:=λ h _ _=>wpIn_exit h
 ret:=λ h _ _=>wpIn_ret h
 cond:=λ{o x y t Q a w} hc h hl hs=>by
  have hs2:DC x=true/\DC y=true:=by simpa[DC]using hs
  refine wpIn_cond hc (h hl ?_)
  split
  ·exact hs2.1
  ·exact hs2.2
 loop:=λ{σ x Q a w} J μ s₀ h₀ hr hl hs=>by
  intro b k cs hro hb hrm
  have key: ∀j s a w,μ s=j->J s a w->
    ∃e a' w',Q e a' w'/\ArrivesIn (Machine.fenced P (FR ro)) P (lone (b.atR a (.code x:: .inLoop x::k)) cs w) b k cs e a' w':=by
   intro j
   induction j using Nat.strongRecOn with
   |_ j ih=>
    intro s a w hn hJ
    obtain⟨e,a₁,w₁,hq,harr⟩:=hr s a w hJ (S1 hl) hs b (.inLoop x::k) cs hro hb hrm
    cases e with
    |normal=>
     obtain⟨s',hJ',hlt⟩:=hq
     obtain⟨e₂,a₂,w₂,hq₂,harr₂⟩:=ih (μ s') (hn▸hlt) s' a₁ w₁ rfl hJ'
     exact⟨e₂,a₂,w₂,hq₂,.of_steps (StepsIn.trans harr (.one (fenced_calm hb hrm U) stepR_inLoop)) harr₂⟩
    |exit id=>exact⟨_,a₁,w₁,hq,.pass (x:=.inLoop x) U (λ _ _=>.inl (by simp)) harr⟩
    |goto l=>exact⟨_,a₁,w₁,hq,.pass (x:=.inLoop x) U (λ _ _=>.inl (by simp)) harr⟩
    |ret=>exact⟨_,a₁,w₁,hq,.pass (x:=.inLoop x) U (λ _ _=>.inl (by simp)) harr⟩
    |panic ch=>exact⟨_,a₁,w₁,hq,.pass (x:=.inLoop x) U (λ _ _=>.inl (by simp)) harr⟩
    |outgrown=>exact⟨_,a₁,w₁,hq,.pass (x:=.inLoop x) U (λ _ _=>.inl (by simp)) harr⟩
  obtain⟨e,a',w',hq,harr⟩:=key _ s₀ a w rfl h₀
  exact⟨e,a',w',hq,.of_steps (.one (fenced_calm hb hrm U) stepR_loop) harr⟩
 nil:=λ h _ _=>h
 one:=λ{ops Q o rest a w} h hl hs=>by
  rw[List.all_cons,Bool.and_eq_true]at hs
  unfold wpList at h
  unfold wpListIn
  split at h
  ·rename_i hw;rw[if_pos hw]
   rcases h with h|⟨_,a',w',h2⟩
   ·have h3:=UB h
    have h4:o.wp P a w (wpListIn (FR ro) n P ops Q rest) Q:=Oper.wp_mono (λ a w (k: ¬LetsOut Q->rest.all MG=true->_)=>k hl hs.2) h3
    exact mI hs.1 h4
   ·exact absurd ⟨a',w',h2⟩ hl
  ·rename_i hw;rw[if_neg hw]
   have h': ¬LetsOut Q->rest.all MG=true->_:=h
   exact⟨λ _ _=>trivial,h' hl hs.2⟩
 want:=λ{ops Q d op ty ps af gd rest a w} hw h hl hs=>by
  have:=h hl hs
  unfold wpListIn at this ⊢
  rw[hw,if_pos U]
  rw[show Region.wanted ⟨d,op,ty,ps,af,none⟩ (yielded ops a.tmps)=true from rfl,if_pos U]at this
  exact this
abbrev Wk.round (P:Program)(l n:Nat):Wk P:=Wk.S2 P (some l) n
def D0(ds:List Deferred)(a:Act):Act:= { a with defers:=a.defers++ds}
def S3(ds:List Deferred)(Q:Exit->Act->World->Prop):Exit->Act->World->Prop:=λ e a w=> ∃a0,a=D0 ds a0/\Q e a0 w
theorem Q0(ds:List Deferred)(a:Act)(d:Option Tmp)(v:Value):(D0 ds a).put d v=D0 ds (a.put d v):=by cases d<;>rfl
theorem mJ{P:Program}{ds:List Deferred}{o:Oper}{a:Act}{w:World}{K:Act->World->Prop}{Q:Exit->Act->World->Prop}(h:o.wp P a w K Q):
  o.wp P (D0 ds a) w (λ a' w'=> ∃a0,a'=D0 ds a0/\K a0 w') (S3 ds Q):=by
 unfold Oper.wp at*
 rw[show(D0 ds a).eval=a.eval from rfl]
 generalize (execOp a.eval o).run P w=r at*
 cases r with
 |ok x w'=>
  cases x with
  |value v=>exact⟨_,Q0 _ _ _ _,h⟩
  |skip=>exact⟨_,Q0 _ _ _ _,h⟩
  |defer d=>exact⟨_,Q0 ds { a with defers:=d::a.defers} _ _,h⟩
  |enter f args=>
   refine Calls.mono h λ e b k=>?_
   cases e with
   |returned v=>exact⟨_,Q0 _ _ _ _,k⟩
   |panicked i=>exact⟨_,rfl,k⟩
   |outgrown=>obtain⟨a0,w0,k⟩:=k;exact⟨_,w0,a0,rfl,k⟩
  |row r args=>exact Rows.mono h λ v b k=>⟨_,Q0 _ _ _ _,k⟩
  |_=>exact h
 |halt s w'=>cases s<;>first|exact h|exact⟨_,rfl,h⟩
theorem X1{P:Program}{ds:List Deferred}{ops:Array Oper}{Q:Exit->Act->World->Prop}: ∀(l:List Nat) (a:Act) (w:World),wpOps P ops Q l a w->wpOps P ops (S3 ds Q) l (D0 ds a) w
 |[],a,w,h=>⟨a,rfl,h⟩
 |i::l,a,w,h=>by
  unfold wpOps at h ⊢
  cases ho:ops[i]? with
  |none=>rw[ho]at h;exact X1 l a w h
  |some o=>
   rw[ho]at h
   dsimp only at h ⊢
   rw[show(D0 ds a).tmps=a.tmps from rfl]
   split at h
   ·rename_i hw;rw[if_pos hw]
    rcases h with h|⟨h1,a',w',b⟩
    ·exact .inl (Oper.wp_mono (λ a' w' ⟨a0,e0,k⟩=>by subst e0;exact X1 l a0 w' k) (mJ h))
    ·exact .inr ⟨h1,_,w',a',rfl,b⟩
   ·rename_i hw;rw[if_neg hw,Q0];exact X1 l _ w h
def Wk.E4 (P:Program)(ds:List Deferred):Wk P where
 wp:=λ x Q a w=>DC x=true->x.wp P (S3 ds Q) (D0 ds a) w
 list:=λ ops Q l a w=>wpList P ops (S3 ds Q) l (D0 ds a) w
 mono:=λ h hq hs=>wp_mono (h hs) λ e a w ⟨a0,e0,q⟩=>⟨a0,e0,hq _ _ _ q⟩
 skip:=λ h _=>wp_skip ⟨_,rfl,h⟩
 seq:=λ{x y Q a w} h hs=>by
  have hs2:DC x=true/\DC y=true:=by simpa[DC]using hs
  refine wp_seq (wp_mono (h hs2.1) λ e a w ⟨a0,e0,q⟩=>?_)
  subst e0
  cases e with
  |normal=>exact q hs2.2
  |_=>exact⟨a0,rfl,q⟩
 region:=λ h _=>wp_region_list h
 plain:=False
 draw:=λ h=>h.elim
 drawS:=λ h _=>wp_region_draw λ t=>X1 _ _ _ (h t)
 block:=λ{id x Q a w} h hs=>wp_block (wp_mono (h hs) λ e a w ⟨a0,e0,q⟩=>by
  subst e0
  cases e with
  |exit id'=>
   show if id'=id then _ else _
   have q':if id'=id then Q .normal a0 w else Q (.exit id') a0 w:=q
   split<;>rename_i hid
   ·rw[if_pos hid]at q';exact⟨a0,rfl,q'⟩
   ·rw[if_neg hid]at q';exact⟨a0,rfl,q'⟩
  |_=>exact⟨a0,rfl,q⟩)
 scope:=λ h hs=>by simp[DC]at hs
 exit:=λ h _=>wp_exit ⟨_,rfl,h⟩
 ret:=λ h _=>wp_ret ⟨_,rfl,h⟩
 cond:=λ{o x y t Q a w} hc h hs=>by
  have hs2:DC x=true/\DC y=true:=by simpa[DC]using hs
  refine wp_cond (t:=t) (by rw[show(D0 ds a).eval=a.eval from rfl];exact hc) (h ?_)
  split
  ·exact hs2.1
  ·exact hs2.2
 loop:=λ{σ x Q a w} J μ s₀ h₀ hr hs=>by
  refine lP (λ s a w=> ∃a0,a=D0 ds a0/\J s a0 w) μ s₀ ⟨a,rfl,h₀⟩ λ s a w ⟨a0,e0,hJ⟩=>?_
  subst e0
  refine wp_mono (hr s a0 w hJ hs) λ e a w ⟨a1,e1,q⟩=>?_
  subst e1
  cases e with
  |normal=>obtain⟨s',h1,h2⟩:=q;exact⟨s',⟨a1,rfl,h1⟩,h2⟩
  |_=>exact⟨a1,rfl,q⟩
 nil:=λ h=>⟨_,rfl,h⟩
 one:=λ{ops Q o rest a w} h=>by
  unfold wpList at h ⊢
  rw[show(D0 ds a).tmps=a.tmps from rfl]
  split at h
  ·rename_i hw;rw[if_pos hw]
   rcases h with h|⟨h1,a',w',h2⟩
   ·exact .inl (Oper.wp_mono (λ a' w' ⟨a0,e0,k⟩=>by subst e0;exact k) (mJ (UB h)))
   ·exact .inr ⟨h1,_,w',a',rfl,h2⟩
  ·rename_i hw;rw[if_neg hw,Q0];exact h
 want:=λ{ops Q d op ty ps af gd rest a w} hw h=>by
  unfold wpList at h ⊢
  rw[show(D0 ds a).tmps=a.tmps from rfl]at h ⊢
  rw[hw,if_pos U]
  rw[show Region.wanted ⟨d,op,ty,ps,af,none⟩ (yielded ops a.tmps)=true from rfl,if_pos U]at h
  exact h
section
variable {w0 w:World} {M0 M:Mem} {Hs:List HO} {o:Obj} {b:Nat}
theorem St.S4 (h:St w0 M0 w M Hs){k:Nat}(j:Hs[k]? =some (.raw b o))(y:Obj):St w0 M0 (w.putObj b y) M (Hs.set k (.raw b y)):=by
 obtain⟨h1,A,z⟩:=h.obj j
 have l:b<w.heap.size:=by
  rcases Nat.lt_or_ge b w.heap.size with n|n
  ·exact n
  ·simp[n]at A
 refine h.write j ⟨rfl,rfl,rfl,by rw[World.putObj_size];exact Nat.le_refl _,λ k j=>World.putObj_heap_other Aa⟩ ⟨λ q o2 v s=>?_⟩ (λ _ _ _=>rfl) (λ q _ i=>World.putObj_heap_other (λ e=>i (by rw[e];rfl))) (λ _ _ _ _=>rfl) ⟨h1,World.putObj_heap_same l,z⟩ (λ _ B=>.inl B)
 have i:q≠b:=λ e=>by subst e;rw[z]at s;cases s
 have:=h.sat.cell q o2 v s
 simp only[World.cell?,World.putObj_heap_other i]at this ⊢;exact this
end
abbrev X3(P:Program)(l:Nat)(vs:Array Value)(w:World)(R:Ending->World->Prop):Prop:=YieldAt Fence.wide 0 P l vs w R
def mK(P:Program)(gf:FuncId)(lb:List Value)(n:Nat)(w0:World)(M0:Mem)(Rs:List HO){τ:Type}(av:Nat->τ->List XV)(pa:Nat->τ->Prop)(FA:Nat->τ->List (Nat×Kn))(w:World)(M:Mem):Prop:=
 ∀(σ:Type) (I:Nat->σ->Prop) (Hy:σ->List HO) (Fy:σ->List (Nat×Kn)) (l:Nat) (g0:σ),(∃x1 x2:σ->HO,∀g,Hy g=[x1 g,x2 g])->St w0 M0 w M (Hy g0++Rs)->BH M (Fy g0)->I 0 g0->
  (∀k g y w' M',k<n->I k g->pa k y->St w0 M0 w' M' (Hy g++Rs)->M.le M'->BH M' (FA k y)->BH M' (Fy g)->
   X3 P l ((av k y).map XV.d).toArray w' (BY w0 M0 M' Rs (λ _:σ=>.bool true) (I (k+1)) Fy Hy))->
  Calls P gf (.func (.yield l) #[] #[]::lb).toArray w (BY w0 M0 M Rs (λ _:σ=>.tuple #[]) (I n) Fy Hy)
def pz:List Tmp->List XV->XE->XE
 |t::ts,v::vs,L=>pz ts vs ((t,.t,v)::L)
 |_,_,L=>L
def OA(N:Nat):List Tmp->List XV->Bool
 |[],[]=>true
 |t::ts,_::vs=>Nat.blt t N&&OA N ts vs
 |_,_=>false
theorem dD{N:Nat}: ∀(ps:List Tmp) (vs:List XV) {L:XE} {a:Act},OA N ps vs=true->AW a N L.d->
  AW { tmps:=(ps.zip (vs.map XV.d)).foldl (λ t (x:Tmp×Value)=>t.setIfInBounds x.1 x.2) a.tmps,defers:=[]} N (pz ps vs L).d
 |[],[],L,a,_,b=>⟨b.size,rfl,b.val⟩
 |t::ts,v::vs,L,a,h,b=>by
  unfold OA at h
  rw[Bool.and_eq_true]at h
  exact dD ts vs (a:=a.put (some t) v.d) h.2 (S0 b h.1 v)
 |[],_::_,_,_,h,_=>by cases h
 |_::_,[],_,_,h,_=>by cases h
abbrev CF:Obj:=.deferred (some [])
def cR(c:Cx)(l D:Nat)(r:Obj)(M:Mem):Cx:= { c with M1:=M,Hr:=.raw l r:: .raw D CF::c.Hr,W:=Wk.round c.P l 0}
theorem UJ{c:Cx}{l D:Nat}{r r':Obj}{M:Mem}{s:XS}{a:Act}{w:World}(h:HM (cR c l D r M) s a w):w.heap[l]? =some r/\HM (cR c l D r' M) s a (w.putObj l r'):=by
 obtain⟨h1,M',b,i,j⟩:=h
 have b:St c.w0 c.M0 w M' (HD s.H++(.raw l r:: .raw D CF::c.Hr)):=b
 have hi:(HD s.H++(.raw l r:: .raw D CF::c.Hr))[(HD s.H).length]? =some (.raw l r):=by simp
 refine⟨(b.obj hi).2.1,h1,M',?_,i,j⟩
 have:=b.S4 hi r'
 have e:(HD s.H++(.raw l r:: .raw D CF::c.Hr)).set (HD s.H).length (.raw l r')=HD s.H++(.raw l r':: .raw D CF::c.Hr):=by simp
 rw[e]at this;exact this
abbrev nB:Exit->Act->World->Prop:=λ _ _ _=>False
theorem dF: ¬LetsOut nB:=λ⟨_,_,h⟩=>h
theorem dG{N:Nat}: ∀ {ps:List Tmp} {vs:List XV},OA N ps vs=true->vs.length=ps.length
 |[],[],_=>rfl
 |t::ts,v::vs,h=>by
  unfold OA at h
  rw[Bool.and_eq_true]at h
  simp[dG h.2]
 |[],_::_,h=>by cases h
 |_::_,[],h=>by cases h
theorem D5.sub {c:Cx}{s s':XS}{w:World}{M:Mem}(h:D5 c s.F s.H w M)(b:s'.sub s):D5 c s'.F s'.H w M:=by
 obtain⟨_,e,R,i⟩:=b
 refine⟨?_,e M h.f,h.le⟩
 have hp:((HD s'.H++c.Hr)++R).Perm (HD s.H++c.Hr):=by
  refine List.Perm.trans ?_ (i.append_right c.Hr)
  rw[List.append_assoc,List.append_assoc]
  exact(List.perm_append_comm).append_left _
 exact(h.st.perm hp).drop _ (List.sublist_append_left _ _)
theorem mL{A B:List HO}{x y:HO}:(A++(x::y::B)).Perm (x::y::(A++B)):=
 List.perm_middle.trans ((List.perm_middle).cons x)
theorem AF4{c:Cx}{B:Exit->Act->World->Prop}{k k':List Fr}{m:Md}{s s':XS}{O:Prop}{E:List Ck}{σ τ:Type}(i:σ->XS)(I:Nat->σ->Prop)(g0:σ){z:Operand}{ps:List Tmp}{assign body:Code}{R:FuncId}{lb:List Value}{n:Nat}{av:Nat->τ->List XV}{pa:Nat->τ->Prop}{FA:Nat->τ->List (Nat×Kn)}{E1:List Ck}(Sa:Nat->σ->τ->XS)
  (hw: ∀x Q a w,x.wp c.P Q a w->c.W.wp x Q a w) (h:run c.T c.N k m s=⟨k',.code (.rangeFunc z ⟨ps⟩ assign body),s',O,E⟩)
  (hg:B5 s'.L .t z=some (.v (.func (.func R) #[] ⟨lb⟩),E1)) (ct:CT c.P R)
  (h0:(⟨JD (i g0).F s'.F,JE (i g0).H s'.H,GH (keys (i g0).L) s'.L⟩:XS)=i g0) (hI:I 0 g0) (hL: ∀g,(i g).L=(i g0).L)
  (hH: ∃x1 x2:σ->HO,∀g,HD (i g).H=[x1 g,x2 g]) (hit: ∀w M l D r w',D5 c s'.F s'.H w M->mK c.P R lb n c.w0 c.M0 (.raw l r:: .raw D CF::c.Hr) av pa FA w' M)
  (S: ∀k y,OA c.N ps (av k y)=true)
  (ha: ∀k g y l D r M,k<n->I k g->pa k y->XG (cR c l D r M) nB [.loop (λ t=>t=Sa k g y)] (.code assign) ⟨FA k y++(i g).F,(i g).H,pz ps (av k y) (i g).L⟩) (hsa:DC assign=true)
  (hb: ∀k g y l D r M,k<n->I k g->pa k y->XG (cR c l D r M) nB [.loop (λ t=> ∃g',t=i g'/\I (k+1) g')] (.code body) (Sa k g y)) (hsb:DC body=true)
  (hn: ∀D g a w,I n g->AW a c.N (i g).L.d->(∃M,St c.w0 c.M0 w M (HD (i g).H++(.raw D CF::c.Hr))/\BH M (i g).F/\c.M1.le M)->post c B k' .normal (D0 [⟨.collected D,#[]⟩] a) w) (hE:A9 E:=by exact Ad) (hO:O:=by exact Af) (hE1:A9 E1:=by exact Ad):XG c B k m s:=by
 refine C5 h hE hO λ a w hs=>?_
 obtain⟨A,M,hX⟩:=hs
 have V:=hX.sub (XS.N9 h0)
 have j:=cN A (XS.N9 h0).1
 refine hw _ _ _ _ ((wpIn_wide (n:=1)).1 (wpIn_rangeFunc λ fn _=>?_))
 obtain⟨rec,b⟩: ∃rec:LoopState->Loop,rec=λ st=> { state:=st,pending:=none,fn,tmps:=a.tmps,params:=⟨ps⟩,assign,body,defers:=w.heap.size}:=⟨_,rfl⟩
 have X:=(V.st.PL CF).PL (.loop (rec .ready))
 rw[World.size_alloc]at X
 have hS2:=X.perm mL
 have hgv:a.eval z= .func (.func R) #[] ⟨lb⟩:=AF hg (hE:=hE1) a c.N A U
 refine⟨w.heap.size+1,[⟨.collected w.heap.size,#[]⟩],(w.alloc CF).alloc (.loop (rec .ready)),⟨.fn (.func R) ⟨lb⟩,#[.func (.yield (w.heap.size+1)) #[] #[]]⟩,(w.alloc CF).alloc (.loop (rec .ready)),R,
  (.func (.yield (w.heap.size+1)) #[] #[]::lb).toArray,(w.alloc CF).alloc (.loop (rec .ready)),by rw[b];exact run_enterLoop_outer _ _ _ _ _,?_,λ _ _=>trivial,?_,(λ h=>by cases h),callsIn_wide.2 ?_⟩
 ·simp only[resolve,hgv]
  simp[go_sem]
 ·simp[invoke,go_sem,ct]
 ·refine(hit w M _ _ _ _ hX σ I (λ g=>HD (i g).H) (λ g=>(i g).F) (w.heap.size+1) g0 hH hS2 V.f hI λ kk g y w' M' hk hIg hp hS hle hFA hF=>?_).mono ?_
  ·have hi:(HD (i g).H++(HO.raw (w.heap.size+1) (.loop (rec .ready)):: .raw w.heap.size CF::c.Hr))[(HD (i g).H).length]? =some (.raw (w.heap.size+1) (.loop (rec .ready))):=by simp
   have hl:=(hS.obj hi).2.1
   have hz:=dD ps (av kk y) (L:=(i g).L) (a:=a) (S kk y) (by rw[hL];exact j)
   have hy:=run_yield (P:=c.P) (args:=((av kk y).map XV.d).toArray) hl (by rw[b];simp[dG (S kk y)])
   refine⟨_,_,_,_,hy,roundIn_of_wpIn trivial ?_⟩
   have h1:=ha kk g y (w.heap.size+1) w.heap.size (.loop (rec .ready)) M' hk hIg hp _ w' ⟨hz,M',hS,hFA.app hF,Mem.le.refl _⟩
   have h2:=h1 (S1 dF) hsa
   rw[b]
   dsimp only
   have e0:(⟨ps⟩:Array Tmp)=ps.toArray:=rfl
   refine wpIn_mono (F:=FR (some (w.heap.size+1))) (by simpa using h2) λ e a1 w1 q=>?_
   cases e with
   |normal=>
    obtain⟨sa,rfl,hsat⟩:=q
    obtain⟨hl1,C⟩:=UJ (r':=.loop { rec .ready with state:=.busy}) hsat
    refine⟨_,run_beginRound hl1 (by rw[b]),?_⟩
    have h4:=hb kk g y (w.heap.size+1) w.heap.size (.loop { rec .ready with state:=.busy}) M' hk hIg hp a1 _ C (S1 dF) hsb
    refine wpIn_mono (F:=FR (some (w.heap.size+1))) h4 λ e a3 w3 q=>?_
    cases e with
    |normal=>
     obtain⟨sb,⟨g',rfl,hI'⟩,G⟩:=q
     obtain⟨hl3,J⟩:=UJ (r':=.loop (rec .ready)) G
     have hr:=run_endRound (P:=c.P) none hl3
     refine⟨_,_,hr,?_⟩
     obtain⟨_,M3,hS6,hF6,hle6⟩:=J
     refine⟨g',M3,rfl,hI',hle6,?_,hF6⟩
     have e1:Obj.loop { { rec .ready with state:=.busy}with state:=if(none:Option Code).isNone=true then LoopState.ready else LoopState.done,pending:=none}= .loop (rec .ready):=by rw[b];rfl
     rw[e1];subst b;exact hS6
    |_=>exact q.elim
   |_=>exact q.elim
  ·rintro e W2 ⟨g,M',rfl,hIn,hle,hS3,hF3⟩
   have hi:(HD (i g).H++(HO.raw (w.heap.size+1) (.loop (rec .ready)):: .raw w.heap.size CF::c.Hr))[(HD (i g).H).length]? =some (.raw (w.heap.size+1) (.loop (rec .ready))):=by simp
   have hl:=(hS3.obj hi).2.1
   have hS4:=hS3.S4 hi (.loop { rec .ready with state:=.exhausted})
   have hend:=run_endLoop (P:=c.P) hl (by rw[b];simp)
   have K:(Instr.endLoop (w.heap.size+1)).run c.P W2= .ok none (W2.putObj (w.heap.size+1) (.loop { rec .ready with state:=.exhausted})):=by rw[hend];rw[b]
   refine⟨none,_,K,?_⟩
   have hd:a.defers=[]:=A.E4
   have hS5:=hS4.drop (HD (i g).H++(.raw w.heap.size CF::c.Hr)) (by
    rw[List.set_append_right _ _ (Nat.le_refl _),Nat.sub_self]
    exact List.Sublist.append (List.Sublist.refl _) (List.sublist_cons_self _ _))
   have:=hn w.heap.size g a _ hIn (by rw[hL];exact j) ⟨M',hS5,hF3,hX.le.trans hle⟩
   rw[show D0 [⟨.collected w.heap.size,#[]⟩] a= { a with defers:=[⟨.collected w.heap.size,#[]⟩]++a.defers} by unfold D0;rw[hd];rfl]at this
   exact this
structure NA (P:Program) (fn:Func) (R:Ending->World->Prop) (Q:Exit->Act->World->Prop):Prop where
 all: ∀e a w,bodyPostM Fence.wide 1 P fn R e a w->Q e a w
theorem UK{P:Program}{N:Nat}{w0 w:World}{M0 M:Mem}{Hr:List HO}{T:TT}(hT:DP P T){f:FuncId}{fn:Func}{x:Code}{R:Ending->World->Prop}(e:P.funcs[f]? =some fn)(i:fn.body=some x)(j:fn.ntmps=N)
  (F:List (Nat×Kn)) (H:List (Nat×HX)) (vs:List XV) (hl:Nat.ble vs.length N=true) (hS:St w0 M0 w M (HD H++Hr)) (hF:BH M F)
  (h: ∀B,NA P fn R B->XG ⟨P,N,w0,M0,M,Hr,T,hT,.wide P⟩ B [] (.code x) ⟨F,H,N8 0 vs⟩) {av:List Value} (k:vs.map XV.d=av):Calls P f av.toArray w R:=by
 subst k
 refine(callsIn_wide (n:=1)).1 (callsIn_of_wp_marks e i trivial (wpIn_wide.2 ?_) U)
 rw[j]
 have b:=AW.enter (vs.map XV.d) N (by rw[List.length_map];exact Nat.le_of_ble_eq_true hl)
 exact h _ ⟨λ _ _ _ h=>h⟩ _ w ⟨by rw[<-RW]at b;exact b,M,hS,hF,Mem.le.refl _⟩
theorem NA.ends {P:Program}{fn:Func}{R:Ending->World->Prop}{Q:Exit->Act->World->Prop}(E:NA P fn R Q):Ends P fn R Q:=⟨λ e a w h=>E.all e a w (by
 cases e with
 |normal=>obtain⟨hd,h⟩:=h;show LeavesInM _ _ _ _ _ _ a.defers _ _;rw[hd];exact h
 |ret=>obtain⟨hd,h⟩:=h;show LeavesInM _ _ _ _ _ _ a.defers _ _;rw[hd];exact h
 |panic b=>obtain⟨hd,h⟩:=h;show LeavesInM _ _ _ _ _ _ a.defers _ _;rw[hd];exact h
 |outgrown=>exact h
 |exit id=>exact h.elim
 |goto l=>exact h.elim)⟩
abbrev IU(D:Nat):List Deferred:=[⟨.collected D,#[]⟩]
def cD(c:Cx)(D:Nat):Cx:= { c with W:=Wk.E4 c.P (IU D)}
def bD(D:Nat)(B:Exit->Act->World->Prop):Exit->Act->World->Prop:=λ e a w=>B e (D0 (IU D) a) w
def NB:List Fr->Bool
 |[]=>true
 | .seq y::k=>DC y&&NB k
 | .block _::k=>NB k
 | .scope::k=>NB k
 | .loop _::_=>false
theorem X4{c:Cx}{D:Nat}{B:Exit->Act->World->Prop}(hw: ∀x Q a w,x.wp c.P Q a w->c.W.wp x Q a w): ∀(k:List Fr),NB k=true-> ∀e a w,post (cD c D) (bD D B) k e a w->post c B k e (D0 (IU D) a) w
 |[],_,e,a,w,h=>h
 | .seq y::k,b,e,a,w,h=>by
  unfold NB at b
  rw[Bool.and_eq_true]at b
  have i:=X4 (D:=D) (B:=B) hw k b.2
  cases e with
  |normal=>
   have h:DC y=true->y.wp c.P (S3 (IU D) (post (cD c D) (bD D B) k)) (D0 (IU D) a) w:=h
   refine hw _ _ _ _ (wp_mono (h b.1) λ e a w ⟨a0,e0,q⟩=>?_)
   subst e0;exact i _ _ _ q
  |_=>exact i _ a w h
 | .block id::k,b,e,a,w,h=>by
  have i:=X4 (D:=D) (B:=B) hw k b
  cases e with
  |exit j=>
   have h:if j=id then post (cD c D) (bD D B) k .normal a w else post (cD c D) (bD D B) k (.exit j) a w:=h
   show if j=id then _ else _
   split<;>rename_i hid
   ·rw[if_pos hid]at h;exact i _ a w h
   ·rw[if_neg hid]at h;exact i _ a w h
  |_=>exact i _ a w h
 | .scope::k,b,e,a,w,h=>by
  have i:=X4 (D:=D) (B:=B) hw k b
  cases e<;>first|exact h.elim|exact i _ a w h
 | .loop J::k,b,_,_,_,_=>by cases b
theorem X5{c:Cx}{B:Exit->Act->World->Prop}{k':List Fr}(b:Nat){s:XS}(hw: ∀x Q a w,x.wp c.P Q a w->c.W.wp x Q a w)(e:NB k'=true){D:Nat}(h:XG (cD c D) (bD D B) k' .next ⟨s.F,(b,.ho (.raw D CF))::s.H,s.L⟩):
  ∀a w,AW a c.N s.L.d->(∃M,St c.w0 c.M0 w M (HD s.H++(.raw D CF::c.Hr))/\BH M s.F/\c.M1.le M)->post c B k' .normal (D0 (IU D) a) w:=
 λ a w i ⟨M,h1,j,k⟩=>X4 hw k' e _ _ _ (h a w ⟨i,M,h1.perm (List.perm_middle.symm),j,k⟩)
theorem NA.E4 {P:Program}{fn:Func}{R:Ending->World->Prop}{Q:Exit->Act->World->Prop}(E:NA P fn R Q){t:Tmp}(k:fn.results= #[.tmp t])(D:Nat):
  Ends P fn (λ e w=>e≠ .outgrown/\w.heap[D]? =some CF/\R e (w.putObj D (.deferred none))) (bD D Q):=⟨λ e a w h=>E.all e (D0 (IU D) a) w (by
 have key: ∀(v:Value),(results fn a.tmps).run P w= .ok v w->(results fn a.tmps).run P (w.putObj D (.deferred none))= .ok v (w.putObj D (.deferred none)):=by
  intro v b
  rw[results_tmp k]at b ⊢
  cases b;rfl
 cases e with
 |normal=>
  obtain⟨hd,v,b,_,i,j⟩:=h
  show LeavesInM _ _ _ _ _ _ (a.defers++IU D) _ _
  rw[hd]
  exact⟨by simp,.inl ⟨D,_,rfl,run_takeDeferred i,v,key v b,j⟩⟩
 |ret=>
  obtain⟨hd,v,b,_,i,j⟩:=h
  show LeavesInM _ _ _ _ _ _ (a.defers++IU D) _ _
  rw[hd]
  exact⟨by simp,.inl ⟨D,_,rfl,run_takeDeferred i,v,key v b,j⟩⟩
 |panic n=>
  obtain⟨hd,_,i,j⟩:=h
  show LeavesInM _ _ _ _ _ _ (a.defers++IU D) _ _
  rw[hd]
  exact⟨by simp,.inl ⟨D,_,rfl,run_takeDeferred i,j⟩⟩
 |outgrown=>exact absurd U h.1
 |exit id=>exact h.elim
 |goto l=>exact h.elim)⟩
theorem D5.shut {c:Cx}{F:List (Nat×Kn)}{H:List (Nat×HX)}{w:World}{M:Mem}{b D:Nat}(h:D5 c F ((b,.ho (.raw D CF))::H) w M):w.heap[D]? =some CF/\St c.w0 c.M0 (w.putObj D (.deferred none)) M (HD H++c.Hr):=by
 have hS:St c.w0 c.M0 w M (.raw D CF::(HD H++c.Hr)):=h.st
 exact⟨(hS.obj (i:=0) U).2.1,(hS.S4 (k:=0) U _).drop _ (List.sublist_cons_self _ _)⟩
section
variable {c:Cx} {B:Exit->Act->World->Prop} {k k':List Fr} {m:Md} {s s':XS} {O:Prop} {E:List Ck} {all:Array Oper} {rest:List Oper} {d:Nat} {ty:TypeId} {ps:String} {af:Array Edge}
theorem dH{F:List (Nat×Kn)}{H:List (Nat×HX)}{w:World}{M:Mem}(i:D5 c F H w M){post:Act->Prop}: ∀ {l:List Oper} {L:XE} {O:Prop} {E:List Ck},let t:=JG c.T c.N F H all l L O E;t.O->A9 t.E->RS c.P all w c.N post t.l t.L.d->O/\A9 E/\RS c.P all w c.N post l L.d
 |[],L,O,E=>λ h1 b e=>⟨h1,b,e⟩
 |⟨dst,op,ty,ps,af,gd⟩::rest,L,O,E=>by
  intro t h1 b e
  have h:t=JG c.T c.N F H all (⟨dst,op,ty,ps,af,gd⟩::rest) L O E:=rfl
  unfold JG at h
  split at h
  ·rename_i d
   split at h
   ·rename_i W s
    split at h
    ·rename_i v p y z
     split at h
     ·rename_i hd
      obtain⟨n,hi,j⟩:=WX (W:=W) (K:=λ n=>JG c.T c.N F H all rest ((d,W,v)::L) n (y++E)) (ps:=p) (O:=O)
      rw[h,hi]at h1 b e
      obtain⟨r1,q,A⟩:=dH i h1 b e
      obtain⟨hp,k⟩:=j r1
      exact⟨k,(A9.app q).2,RS.v (M9 s) (U7 c.hT i.f i.st HJ z (A9.app q).1 hp) hd A⟩
     ·rw[h]at h1 b e;exact⟨h1,b,e⟩
    ·rw[h]at h1 b e;exact⟨h1,b,e⟩
   ·rw[h]at h1 b e;exact⟨h1,b,e⟩
  ·rw[h]at h1 b e;exact⟨h1,b,e⟩
def X6{α:Type}(w0:World)(M0 M:Mem)(Rs:List HO)(T:TypeId)(r:PR α)(X:α->Int->Ending->World->Prop):Ending->World->Prop:=match r with
 | .ok x j=>X x j
 | .er ec p=>λ e w'=> ∃M',e= .panicked [PW T ec p]/\St w0 M0 w' M' Rs/\M.le M'
theorem OB(ids:List Nat){l:TypeId}{n p:Int}{q:Operand}{f:FuncId}{y z:List Value}{E1 E2:List Ck}{xs:List Operand}{tys:Array TypeId}{vs:List XV}{A R:List (Nat×HX)}{C:Option Tmp}
  (h:run c.T c.N k m s=⟨k',.ops all (⟨C,.call ⟨.value q,⟨xs⟩,tys⟩,ty,ps,af,none⟩::rest),s',O,E⟩) (D:callee s'.L q=some (f,y,z,E1)) (G:CT c.P f) (hx:JZ s'.L .t xs=some (vs,E2))
  (J:FK ids s'.H=some (A,R)) (K: ∀w M,St c.w0 c.M0 w M (HD A++(HD R++c.Hr))->BH M s'.F->Calls c.P f (y++vs.map XV.d++z).toArray w (λ e w'=> ∃M',e= .panicked [PW l n p]/\St c.w0 c.M0 w' M' (HD R++c.Hr)/\M.le M'))
  (hp: ∀a w M,AW a c.N s'.L.d->St c.w0 c.M0 w M (HD R++c.Hr)->c.M1.le M->post c B k' (.panic [PW l n p]) a w) (hE:A9 E:=by exact Ad) (hO:O:=by exact Af) (hE1:A9 (E1++E2):=by exact Ad):XG c B k m s:=by
 refine E7 h (hE:=hE) (hO:=hO) λ w M i=>?_
 have j:St c.w0 c.M0 w M (HD A++(HD R++c.Hr)):=i.st.perm (by rw[<-List.append_assoc];exact(PY J).append_right _)
 refine dB G D hE1.app.1 (MB hx hE1.app.2) (K w M j i.f) (λ v w' b=>?_) (λ S w' b ac Q=>?_) (λ w' b=>?_)
 ·obtain⟨M',he,_⟩:=b;cases he
 ·obtain⟨M',he,hS,hle⟩:=b
  cases he
  exact hp ac w' M' Q hS (i.le.trans hle)
 ·obtain⟨M',he,_⟩:=b;cases he
theorem AF5{b:Option Tmp}{x:Operand}{v:XV}{t:TypeId}{u:Value}{E1:List Ck}(h:run c.T c.N k m s=⟨k',.ops all (⟨b,.panic x,ty,ps,af,none⟩::rest),s',O,E⟩)(hx:B5 s'.L .t x=some (v,E1))(e:v.d= .iface t u)
  (hp: ∀a w M,AW a c.N s'.L.d->D5 c s'.F s'.H w M->post c B k' (.panic [{ v:=.iface t u,recovered:=false}]) a w) (hE:A9 E:=by exact Ad) (hO:O:=by exact Af) (hE1:A9 E1:=by exact Ad):XG c B k m s:=
 E7 h (hE:=hE) (hO:=hO) λ w M i=>RL.panic (by have:=AF hx (hE:=hE1);rw[e]at this;exact this) λ a j=>hp a w M j i
theorem K0{b:List PanicEntry}: ∀(k:List Fr) {a:Act} {w:World},B (.panic b) a w->post c B k (.panic b) a w
 |[],_,_,h=>h
 | .seq y::k,_,_,h=>K0 k h
 | .block id::k,_,_,h=>K0 k h
 | .scope::k,_,_,h=>K0 k h
 | .loop J::k,_,_,h=>K0 k h
def dI:List Fr->Bool
 |[]=>true
 | .loop _::_=>false
 |_::k=>dI k
theorem X7{X:List HO}: ∀(k:List Fr),dI k=true->post { c with Hr:=X} B k=post c B k
 |[],_=>rfl
 | .seq y::k,h=>by
  have b:=X7 (X:=X) k h
  show Exit.then (c.W.wp y (post { c with Hr:=X} B k)) (post { c with Hr:=X} B k)=_
  rw[b];rfl
 | .block id::k,h=>by
  have b:=X7 (X:=X) k h
  show Exit.inBlock id (post { c with Hr:=X} B k)=_
  rw[b];rfl
 | .scope::k,h=>by
  have b:=X7 (X:=X) k h
  show Exit.noGoto (post { c with Hr:=X} B k)=_
  rw[b];rfl
 | .loop J::k,h=>by cases h
theorem X8(ids:List Nat){A R:List (Nat×HX)}(i:FK ids s.H=some (A,R))(j:dI k=true)(h:XG { c with Hr:=HD A++c.Hr} B k m ⟨s.F,R,s.L⟩):XG c B k m s:=by
 intro a w l
 obtain⟨h1,M,b⟩:=l
 have e:St c.w0 c.M0 w M (HD R++(HD A++c.Hr)):=b.st.perm (by
  rw[<-List.append_assoc]
  exact(List.perm_append_comm.trans (PY i)).append_right _)
 have:=h a w ⟨h1,M,e,b.f,b.le⟩
 rw[X7 k j]at this
 exact this
end
structure QG where
 V:XE
 av:List Nat
 O:Prop
 E:List Ck
def UL(W:Gd):List Prop->Prop->(Prop->Option QG)->Option QG
 |[],O,K=>K O
 |p::ps,O,K=>match W with
  | .t=>UL W ps (p/\O) K
  | .g b=>UL W ps ((b=false\/p)/\O) K
theorem UM{W:Gd}{K:Prop->Option QG}: ∀ {ps:List Prop} {O:Prop},∃i,UL W ps O K=K i/\(i->(W.d=true->IS ps)/\O)
 |[],O=>⟨O,rfl,λ h=>⟨λ _=>trivial,h⟩⟩
 |p::ps,O=>by
  unfold UL
  cases W with
  |t=>
   obtain⟨i,h1,e⟩:=UM (W:=.t) (K:=K) (ps:=ps) (O:=p/\O)
   exact⟨i,h1,λ h=>⟨λ j=>⟨(e h).2.1,(e h).1 j⟩,(e h).2.2⟩⟩
  |g b=>
   obtain⟨i,h1,e⟩:=UM (W:=.g b) (K:=K) (ps:=ps) (O:=(b=false\/p)/\O)
   exact⟨i,h1,λ h=>⟨λ j=>⟨(e h).2.1.resolve_left (by rw[show b=true from j];decide),(e h).1 j⟩,(e h).2.2⟩⟩
def CG(k:Nat):List Nat->Bool
 |[]=>false
 |x::l=>match Nat.beq x k with
  |true=>true
  |false=>CG k l
theorem GQ{k:Nat}: ∀ {l:List Nat},CG k l=true↔k∈l
 |[]=>by simp[CG]
 |x::l=>by
  unfold CG
  split
  ·rename_i e;have:=Nat.eq_of_beq_eq_true e;subst this;simp
  ·rename_i e
   have:k≠x:=λ h=>by subst h;rw[Nat.beq_refl]at e;cases e
   rw[GQ];simp[this]
def FB(p:Nat->Bool):List Nat->Bool
 |[]=>true
 |x::l=>match p x with
  |true=>FB p l
  |false=>false
theorem NC{p:Nat->Bool}: ∀ {l:List Nat},FB p l=true↔ ∀x∈l,p x=true
 |[]=>by simp[FB]
 |x::l=>by
  unfold FB
  split
  ·rename_i e;rw[NC];simp[e]
  ·rename_i e;simp[e]
def X9(l:List Oper)(j:Nat):Option Tmp:=match nth l j with
 |some o=>o.dst
 |none=>none
theorem mM(l:List Oper)(j:Nat):X9 l j=F8 l j:=by
 unfold X9 F8;rw[I9];cases l[j]?<;>rfl
def JH(l:List Oper)(V L:XE):List Nat->XE
 |[]=>L
 |j::js=>match X9 l j with
  |some d=>match BM V d with
   |some (g,v)=>(d,g,v)::JH l V L js
   |none=>JH l V L js
  |none=>JH l V L js
theorem UN{l:List Oper}{V L:XE}: ∀ {js:List Nat} {t:Nat} {g:Gd} {v:XV},BM (JH l V L js) t=some (g,v)->BM L t=some (g,v)\/ ∃j∈js,F8 l j=some t/\BM V t=some (g,v)
 |[],_,_,_,h=>.inl h
 |j::js,t,g,v,h=>by
  unfold JH at h
  split at h
  ·rename_i d hd
   split at h
   ·rename_i n v' k
    unfold BM at h
    split at h
    ·rename_i e
     have:=Nat.eq_of_beq_eq_true e;subst this
     cases h
     exact .inr ⟨j,.head _,by rw[<-mM];exact hd,k⟩
    ·exact(UN h).imp id λ⟨b,h1,i⟩=>⟨b,.tail _ h1,i⟩
   ·exact(UN h).imp id λ⟨b,h1,i⟩=>⟨b,.tail _ h1,i⟩
  ·exact(UN h).imp id λ⟨b,h1,i⟩=>⟨b,.tail _ h1,i⟩
def G1(T:TT)(N:Nat)(F:List (Nat×Kn))(H:List (Nat×HX))(all:List Oper)(es done:List Nat)(L:XE):Nat->List Oper->XE->List Nat->Prop->List Ck->Option QG
 |_,[],V,av,O,E=>some ⟨V,av,O,E⟩
 |i,⟨dst,op,ty,ps,af,gd⟩::l,V,av,O,E=>match CG i es with
  |true=>G1 T N F H all es done L (i+1) l V av O E
  |false=>match FB (λ j=>CG j av||CG j done) (DH ⟨dst,op,ty,ps,af,gd⟩)with
   |false=>G1 T N F H all es done L (i+1) l V av O E
   |true=>
        match dst with
    |none=>none
    |some d=>match BM L d with
     |some (g,v)=>G1 T N F H all es done L (i+1) l ((d,g,v)::V) (i::av) O E
     |none=>match HN ⟨all⟩ (JH all V L (DH ⟨some d,op,ty,ps,af,gd⟩)) gd with
      |none=>none
      |some W=>match RN T F H (JH all V L (DH ⟨some d,op,ty,ps,af,gd⟩)) W op with
       |none=>none
       |some (v,p,E')=>match Nat.blt d N with
        |false=>none
        |true=>UL W p O λ O'=>G1 T N F H all es done L (i+1) l ((d,W,v)::V) (i::av) O' (E'++E)
section
variable {c:Cx} {F:List (Nat×Kn)} {H:List (Nat×HX)} {l:List Oper} {es done:List Nat} {L:XE}
def XA(c:Cx)(F:List (Nat×Kn))(H:List (Nat×HX))(l:List Oper)(L:XE)(V:XE)(j:Nat):Prop:=
 ∃d op ty ps af gd W v,l[j]? =some ⟨some d,op,ty,ps,af,gd⟩/\BM V d=some (W,v)/\((∃x,BM L d=some x)\/(Nat.blt d c.N=true/\ ∀a,AW a c.N L.d->
  (∀j'∈DH ⟨some d,op,ty,ps,af,gd⟩,∀d',F8 l j'=some d'-> ∀g u,BM V d'=some (g,u)->a.tmps[d']? =some (sv g.d u.d))-> ∃LL,AW a c.N LL/\DZ l.toArray LL gd W.d/\ ∀w M,D5 c F H w M->PV c.P (· =w) LL W.d ⟨some d,op,ty,ps,af,gd⟩ v.d))
structure Q1 (c:Cx) (F:List (Nat×Kn)) (H:List (Nat×HX)) (l:List Oper) (es done:List Nat) (L:XE) (n:Nat) (V:XE) (av:List Nat):Prop where
 keys: ∀t x,BM V t=some x-> ∃j∈av,F8 l j=some t
 lt: ∀j∈av,j<n/\j ∉ es
 ok: ∀j∈av,XA c F H l L V j
theorem UO(
                dist: ∀i j a b,F8 l i=some a->F8 l j=some b->i≠j->a≠b) (ac: ∀(i:Nat) o,l[i]? =some o-> ∀j∈DH o,j<i): ∀(r:List Oper) (i:Nat) (V:XE) (av:List Nat) (O:Prop) (E:List Ck) (t:QG),l.drop i=r->Q1 c F H l es done L i V av->G1 c.T c.N F H l es done L i r V av O E=some t->t.O->A9 t.E->
    Q1 c F H l es done L l.length t.V t.av/\O/\A9 E/\(∀j,i<=j->j<l.length->j ∉ es->(∀o,l[j]? =some o-> ∀n∈DH o,n∈t.av\/n∈done)->j∈t.av)/\(∀j∈av,j∈t.av)
  |[],i,V,av,O,E,t,hr,y,h,hO,hE=>by
    unfold G1 at h
    cases h
    have hi:l.length<=i:=by
      have:=congrArg List.length hr
      simp at this;omega
    exact⟨⟨y.keys,λ j k=>by
      obtain⟨d,op,ty,ps,af,gd,W,v,h1,_⟩:=y.ok j k
      exact⟨(List.getElem?_eq_some_iff.1 h1).1,(y.lt j k).2⟩,y.ok⟩,hO,hE,λ j h1 J=>by omega,λ j k=>k⟩
  |⟨dst,op,ty,ps,af,gd⟩::r,i,V,av,O,E,t,hr,y,h,hO,hE=>by
    have D:l.drop (i+1)=r:=by
      rw[show i+1=i+1 from rfl,<-List.drop_drop,hr];rfl
    have z:l[i]? =some ⟨dst,op,ty,ps,af,gd⟩:=by
      have:=congrArg (·[0]?) hr
      simpa using this
    have X:Q1 c F H l es done L (i+1) V av:=⟨y.keys,λ j k=>⟨by have:=(y.lt j k).1;omega,(y.lt j k).2⟩,y.ok⟩
    unfold G1 at h
    split at h
    · rename_i he
      obtain⟨k1,k2,k3,k4,P⟩:=UO dist ac r (i+1) V av O E t D X h hO hE
      refine⟨k1,k2,k3,λ j h1 J Q R=>?_,P⟩
      by_cases hji:j=i
      · subst hji;exact absurd (GQ.1 he) Q
      · exact k4 j Aa J Q R
    · rename_i he
      split at h
      · rename_i hb
        obtain⟨k1,k2,k3,k4,P⟩:=UO dist ac r (i+1) V av O E t D X h hO hE
        refine⟨k1,k2,k3,λ j h1 J Q R=>?_,P⟩
        by_cases hji:j=i
        · subst hji
          exfalso
          have hall:FB (λ j=>CG j av||CG j done) (DH ⟨dst,op,ty,ps,af,gd⟩)=true:=NC.2 λ n s=>by
            rcases R _ z n s with h5|h5
            ·
              have hlt:=ac j _ z n s
              rw[Bool.or_eq_true]
              left
              rw[GQ]
              have: ∀A,A∈t.av->A<j->A∈av:=by
                intro A m1 m2
                exact(qgo_new r (j+1) V av O E t h A m1).resolve_right Aa
              exact this n h5 hlt
            · rw[Bool.or_eq_true];right;exact GQ.2 h5
          rw[hall]at hb;cases hb
        · exact k4 j Aa J Q R
      · rename_i hb
        have hbs: ∀n∈DH ⟨dst,op,ty,ps,af,gd⟩,n∈av\/n∈done:=λ n s=>by
          have:=NC.1 hb n s
          rw[Bool.or_eq_true]at this
          exact this.imp GQ.1 GQ.1
        split at h
        · cases h
        · rename_i d
          have hdi:F8 l i=some d:=by unfold F8;rw[z];rfl
          have S: ∀j∈av,∀d',F8 l j=some d'->d'≠d:=λ j k d' q=>dist j i d' d q hdi (by have:=(y.lt j k).1;omega)
          have hVd: ∀x,BM V d≠some x:=λ x hx=>by
            obtain⟨j,k,q⟩:=y.keys d x hx
            exact S j k d q U
          have G: ∀ {g:Gd} {v:XV} {t:Nat},t≠d->BM ((d,g,v)::V) t=BM V t:=λ{g v t} hne=>by
            show(match Nat.beq d t with|true=>some (g,v)|false=>BM V t)=BM V t
            split
            · rename_i e;exact absurd (Nat.eq_of_beq_eq_true e).symm hne
            · rfl
          have B: ∀ {g:Gd} {v:XV},BM ((d,g,v)::V) d=some (g,v):=λ{g v}=>by
            show(match Nat.beq d d with|true=>some (g,v)|false=>BM V d)=_
            rw[Nat.beq_refl]
          have hnes:i ∉ es:=λ hm=>by rw[GQ.2 hm]at he;cases he
          have GF: ∀ {g:Gd} {v:XV} (j:Nat),j∈av->XA c F H l L ((d,g,v)::V) j:=λ{g v} j k=>by
            obtain⟨d1,op1,ty1,ps1,af1,gd1,W1,v1,h1,J,Q⟩:=y.ok j k
            have hd1:d1≠d:=S j k d1 (by unfold F8;rw[h1];rfl)
            refine⟨d1,op1,ty1,ps1,af1,gd1,W1,v1,h1,by rw[G hd1];exact J,Q.imp id λ⟨R,h5⟩=>⟨R,λ a ha C=>h5 a ha λ n s d' q g' u hu=>C n s d' q g' u ?_⟩⟩
            rw[G (λ e=>by subst e;exact hVd _ hu)];exact hu
          have step: ∀ {g:Gd} {v:XV},XA c F H l L ((d,g,v)::V) i->Q1 c F H l es done L (i+1) ((d,g,v)::V) (i::av):=λ{g v} hq=>⟨λ t x hx=>by
            by_cases e:t=d
            · subst e;exact⟨i,.head _,hdi⟩
            · rw[G e]at hx
              obtain⟨j,k,q⟩:=y.keys t x hx
              exact⟨j,.tail _ k,q⟩,λ j k=>by
            rcases List.mem_cons.1 k with rfl|k
            · exact⟨Aa,hnes⟩
            · exact X.lt j k,λ j k=>by
            rcases List.mem_cons.1 k with rfl|k
            · exact hq
            · exact GF j k⟩
          have fin: ∀ {V':XE} {O':Prop} {E':List Ck},(Q1 c F H l es done L l.length t.V t.av/\O'/\A9 E'/\(∀j,i+1<=j->j<l.length->j ∉ es->(∀o,l[j]? =some o-> ∀n∈DH o,n∈t.av\/n∈done)->j∈t.av)/\(∀j∈i::av,j∈t.av))->
              Q1 c F H l es done L l.length t.V t.av/\O'/\A9 E'/\(∀j,i<=j->j<l.length->j ∉ es->(∀o,l[j]? =some o-> ∀n∈DH o,n∈t.av\/n∈done)->j∈t.av)/\(∀j∈av,j∈t.av):=λ{V' O' E'} ⟨k1,k2,k3,k4,P⟩=>⟨k1,k2,k3,λ j h1 J Q R=>by
            by_cases hji:j=i
            · subst hji;exact P j (.head _)
            · exact k4 j Aa J Q R,λ j k=>P j (.tail _ k)⟩
          split at h
          · rename_i g v hL
            exact fin (V':=V) (UO dist ac r (i+1) _ _ O E t D (step ⟨d,op,ty,ps,af,gd,g,v,z,B,.inl ⟨_,hL⟩⟩) h hO hE)
          · rename_i hL
            split at h
            · cases h
            · rename_i W hW
              split at h
              · cases h
              · rename_i v p E' hv
                split at h
                · cases h
                · rename_i hd
                  obtain⟨O',hi,hO'⟩:=UM (W:=W) (K:=λ O'=>G1 c.T c.N F H l es done L (i+1) r ((d,W,v)::V) (i::av) O' (E'++E)) (ps:=p) (O:=O)
                  rw[hi]at h
                  have hob:=qgo_obl r (i+1) _ _ _ _ t h hO hE
                  obtain⟨hp,hOO⟩:=hO' hob.1
                  have hE':=(A9.app hob.2).1
                  have hq:XA c F H l L ((d,W,v)::V) i:=by
                    refine⟨d,op,ty,ps,af,gd,W,v,z,B,.inr ⟨hd,λ a ha C=>⟨XE.d (JH l V L (DH ⟨some d,op,ty,ps,af,gd⟩)),⟨ha.size,ha.E4,λ t g' v' hx=>?_⟩,M9 hW,λ w M hX=>U7 c.hT hX.f hX.st HJ hv hE' hp⟩⟩⟩
                    obtain⟨g2,v2,h6,rfl,rfl⟩:=PS hx
                    rcases UN h6 with h7|⟨n,s,q,h7⟩
                    · exact ha.val t _ _ (I8 h7)
                    · refine C n s t q g2 v2 ?_
                      rw[G (λ e=>by subst e;exact hVd _ h7)];exact h7
                  obtain⟨k1,k2,k3,k4,P⟩:=fin (V':=V) (UO dist ac r (i+1) _ _ O' (E'++E) t D (step hq) h hO hE)
                  exact⟨k1,hOO,(A9.app hob.2).2,k4,P⟩
where
 qgo_new: ∀(r:List Oper) (i:Nat) (V:XE) (av:List Nat) (O:Prop) (E:List Ck) (t:QG),G1 c.T c.N F H l es done L i r V av O E=some t-> ∀j∈t.av,j∈av\/i<=j
  |[],i,V,av,O,E,t,h,j,hj=>by unfold G1 at h;cases h;exact .inl hj
  |⟨dst,op,ty,ps,af,gd⟩::r,i,V,av,O,E,t,h,j,hj=>by
   have up: ∀ {av':List Nat},(j∈av'\/i+1<=j)->(∀x∈av',x∈av\/x=i)->j∈av\/i<=j:=λ{av'} h1 h2=>by
    rcases h1 with h1|h1
    ·rcases h2 j h1 with h3|h3
     ·exact .inl h3
     ·exact .inr Aa
    ·exact .inr Aa
   have cns: ∀x∈i::av,x∈av\/x=i:=λ x hx=>by
    rcases List.mem_cons.1 hx with rfl|hx
    ·exact .inr U
    ·exact .inl hx
   unfold G1 at h
   split at h
   ·exact up (qgo_new r _ _ _ _ _ t h j hj) λ x hx=>.inl hx
   ·split at h
    ·exact up (qgo_new r _ _ _ _ _ t h j hj) λ x hx=>.inl hx
    ·split at h
     ·cases h
     ·rename_i d hb
      split at h
      ·exact up (qgo_new r _ _ _ _ _ t h j hj) cns
      ·split at h
       ·cases h
       ·rename_i W hW
        split at h
        ·cases h
        ·rename_i v p E' hv
         split at h
         ·cases h
         ·obtain⟨O',hi,_⟩:=UM (W:=W) (K:=λ O'=>G1 c.T c.N F H l es done L (i+1) r ((d,W,v)::V) (i::av) O' (E'++E)) (ps:=p) (O:=O)
          rw[hi]at h
          exact up (qgo_new r _ _ _ _ _ t h j hj) cns
 qgo_obl: ∀(r:List Oper) (i:Nat) (V:XE) (av:List Nat) (O:Prop) (E:List Ck) (t:QG),G1 c.T c.N F H l es done L i r V av O E=some t->t.O->A9 t.E->O/\A9 E
  |[],i,V,av,O,E,t,h,hO,hE=>by unfold G1 at h;cases h;exact⟨hO,hE⟩
  |⟨dst,op,ty,ps,af,gd⟩::r,i,V,av,O,E,t,h,hO,hE=>by
   unfold G1 at h
   split at h
   ·exact qgo_obl r _ _ _ _ _ t h hO hE
   ·split at h
    ·exact qgo_obl r _ _ _ _ _ t h hO hE
    ·split at h
     ·cases h
     ·rename_i d hb
      split at h
      ·exact qgo_obl r _ _ _ _ _ t h hO hE
      ·split at h
       ·cases h
       ·rename_i W hW
        split at h
        ·cases h
        ·rename_i v p E' hv
         split at h
         ·cases h
         ·obtain⟨O',hi,hO'⟩:=UM (W:=W) (K:=λ O'=>G1 c.T c.N F H l es done L (i+1) r ((d,W,v)::V) (i::av) O' (E'++E)) (ps:=p) (O:=O)
          rw[hi]at h
          obtain⟨h1,h2⟩:=qgo_obl r _ _ _ _ _ t h hO hE
          exact⟨(hO' h1).2,(A9.app h2).2⟩
end
theorem S5{a:Act}{b:Option Tmp}{v:Value}{t:Nat}(h:b≠some t):(a.put b v).tmps[t]? =a.tmps[t]?:=by
 cases b with
 |none=>rfl
 |some d=>
  have i:d≠t:=λ e=>h (by rw[e])
  simp[Act.put,Array.getElem?_setIfInBounds_ne i]
theorem AF6{P:Program}{o:Oper}{a:Act}{w:World}{K:Act->World->Prop}{Q:Exit->Act->World->Prop}(h:o.wp P a w K Q):o.wp P a w (λ a' w'=>K a' w'/\ ∀t,o.dst≠some t->a'.tmps[t]? =a.tmps[t]?) Q:=by
 unfold Oper.wp at*
 generalize (execOp a.eval o).run P w=r at*
 cases r with
 |ok x w'=>
  cases x with
  |value v=>exact⟨h,λ t b=>S5 b⟩
  |skip=>exact⟨h,λ t b=>S5 b⟩
  |defer d=>exact⟨h,λ t b=>S5 (a:= { a with defers:=d::a.defers}) b⟩
  |enter f args=>
   refine Calls.mono h λ e i k=>?_
   cases e with
   |returned v=>exact⟨k,λ t b=>S5 b⟩
   |panicked j=>exact k
   |outgrown=>exact k
  |row r args=>exact Rows.mono h λ v i k=>⟨k,λ t b=>S5 b⟩
  |_=>exact h
 |halt s w'=>cases s<;>exact h
theorem mN{P:Program}{ops:Array Oper}{Q:Exit->Act->World->Prop}{a:Act}{w:World}{i:Nat}{o:Oper}(ho:ops[i]? =some o){K b:Act->World->Prop}(h:wpList P ops (Exit.then K Q) [o] a w)(e: ∀a' w',K a' w'->(∀t,o.dst≠some t->a'.tmps[t]? =a.tmps[t]?)->b a' w'):wpOp P ops Q i b a w:=by
 unfold wpOp
 rw[ho]
 unfold wpList at h
 dsimp only
 split
 ·rename_i hw
  rw[if_pos hw]at h
  rcases h with h|⟨h1,k⟩
  ·exact .inl (Oper.wp_mono (λ a' w' j=>e a' w' j.1 j.2) (AF6 (UB h)))
  ·exact .inr ⟨h1,k⟩
 ·rename_i hw
  rw[if_neg hw]at h
  exact e _ _ h λ t l=>S5 l
def upto:Nat->List Nat
 |0=>[]
 |n+1=>n::upto n
theorem mO: ∀ {n i:Nat},i<n->i∈upto n
 |n+1,i,h=>by
  by_cases e:i=n
  ·subst e;exact .head _
  ·exact .tail _ (mO Aa)
def UP(l:List Oper)(es bs:List Nat)(L:XE):Bool:=FB (λ j=>CG j es||CG j bs||match X9 l j with|some d=> !(CG d (keys L))|none=>true) (upto l.length)
def DG(c:Cx)(B:Exit->Act->World->Prop)(k:List Fr)(l:List Oper)(es:List Nat):Nat->List Nat->List Nat->XE->List Nat->XS->Prop
 |0,_,_,_,_,_=>False
 |n+1,done,bs,V0,av0,s=> ∃V av O E,G1 c.T c.N s.F s.H l es done s.L 0 l [] [] ((0:Int)=0) []=some ⟨V,av,O,E⟩/\O/\A9 E/\GH (keys V0) V=V0/\FB (λ j=>CG j av) av0=true/\UP l es bs s.L=true/\
  (FB (λ e=>CG e done) es=true->XG c B k .next ⟨s.F,s.H,V++s.L⟩)/\
  ∀e o,l[e]? =some o->CG e es=true->CG e done=false->FB (λ j=>CG j av||CG j done) (DH o)=true->
   XG c B (.loop (DG c B k l es n (done++[e]) (bs++DH o) V av)::k) (.ops ⟨l⟩ [o]) ⟨s.F,s.H,JH l V s.L (DH o)⟩
theorem mP: ∀ {L:XE} {t:Nat} {x:Gd×XV},BM L t=some x->t∈keys L
 |[],_,_,h=>by cases h
 |(k,g,v)::L,t,x,h=>by
  unfold BM at h
  split at h
  ·rename_i e;have:=Nat.eq_of_beq_eq_true e;subst this;exact .head _
  ·exact .tail _ (mP h)
theorem mQ: ∀ {V L:XE} {t:Nat},BM (V++L) t=match BM V t with|some x=>some x|none=>BM L t
 |[],_,_=>rfl
 |(k,g,v)::V,L,t=>by
  show(match Nat.beq k t with|true=>some (g,v)|false=>BM (V++L) t)=match(match Nat.beq k t with|true=>some (g,v)|false=>BM V t)with|some x=>some x|none=>BM L t
  split
  ·rfl
  ·exact mQ
theorem dJ{l:List Oper}{listed:Array Bool}{i:Nat}(q:listed.size=l.length):i∈Region.ready .any l.toArray listed↔ ∃o,l[i]? =some o/\listed.getD i true=false/\ ∀j∈DH o,listed.getD j false=true:=by
 unfold Region.ready
 rw[List.mem_filter,List.mem_range]
 constructor
 ·rintro⟨h1,b⟩
  have h1:i<l.length:=by simpa using h1
  refine⟨l[i],by simp[h1],?_⟩
  have ho:l.toArray[i]? =some l[i]:=by simp[h1]
  rw[ho]at b
  simp only[Bool.and_eq_true,Bool.not_eq_true',Option.map_some,Option.getD_some]at b
  refine⟨b.1,λ j s=>?_⟩
  obtain⟨e,he,rfl⟩:=List.mem_map.1 s
  have h:=List.mem_filter.1 he
  have:=(Array.all_eq_true_iff_forall_mem.1 b.2) e (by simpa using h.1)
  rw[h.2]at this
  simpa using this
 ·rintro⟨o,ho,h1,b⟩
  have k:=(List.getElem?_eq_some_iff.1 ho).1
  refine⟨by simpa using k,?_⟩
  have n:l.toArray[i]? =some o:=by simpa using ho
  rw[n,h1]
  simp only[Bool.not_false,Bool.true_and,Option.map_some,Option.getD_some]
  rw[Array.all_eq_true_iff_forall_mem]
  intro e he
  by_cases hb:Region.binds .any e=true
  ·rw[b e.on (List.mem_map.2 ⟨e,List.mem_filter.2 ⟨by simpa using he,hb⟩,rfl⟩)];simp
  ·simp[hb]
theorem mR{c:Cx}{B:Exit->Act->World->Prop}{k:List Fr}{id:Nat}{l:List Oper}{s:XS}(es:List Nat)(n:Nat)(hl: ∀ops Q l a w,c.W.list ops Q l a w->wpList c.P ops Q l a w)(hm:c.P.follows .mixedOrders=true)(hB:WH l []=true)(hes:FB (λ e=>Nat.blt e l.length) es=true)(h:DG c B k l es n [] [] [] [] s)
  {a:Act} {w:World} (hs:HM c s a w) (t:Nat):wpOps c.P ⟨l⟩ (post c B k) (Region.schedule (c.P.follows .mixedOrders) ⟨l⟩ t) a { w with drawn:=w.drawn+1}:=by
 simp only[Region.schedule,hm,Bool.true_or,if_true]
 refine wpAny_sound _ t _ a _ ?_
 unfold WH at hB
 simp only[Bool.and_eq_true]at hB
 obtain⟨⟨hac,hdd⟩,_⟩:=hB
 have acyc: ∀(i:Nat) o,l[i]? =some o-> ∀j∈DH o,j<i:=by
  intro i o ho j q
  have hlt:i<l.length:=(List.getElem?_eq_some_iff.1 ho).1
  have:=List.all_eq_true.1 hac i (List.mem_range.2 hlt)
  rw[ho]at this
  simp only[Option.map_some,Option.getD_some]at this
  exact Nat.le_of_ble_eq_true (List.all_eq_true.1 this j q)
 have J: ∀i j a b,F8 l i=some a->F8 l j=some b->i≠j->a≠b:=by
  intro i j a b hi q hij
  have h1:i<l.length:=by
   rcases Nat.lt_or_ge i l.length with h|h
   ·exact h
   ·simp[F8,h]at hi
  have h2:j<l.length:=by
   rcases Nat.lt_or_ge j l.length with h|h
   ·exact h
   ·simp[F8,h]at q
  have:=List.all_eq_true.1 (List.all_eq_true.1 hdd i (List.mem_range.2 h1)) j (List.mem_range.2 h2)
  rw[hi,q]at this
  simp only[Bool.or_eq_true,Bool.not_eq_true']at this
  rcases this with h|h
  ·exact absurd (Nat.eq_of_beq_eq_true h) hij
  ·intro e;subst e;simp at h
 let Inv:Array Bool->Act->World->Prop:=λ listed a w'=> ∃n done bs s V av O E,G1 c.T c.N s.F s.H l es done s.L 0 l [] [] ((0:Int)=0) []=some ⟨V,av,O,E⟩/\O/\A9 E/\
  (FB (λ e=>CG e done) es=true->XG c B k .next ⟨s.F,s.H,V++s.L⟩)/\
  (∀e o,l[e]? =some o->CG e es=true->CG e done=false->FB (λ j=>CG j av||CG j done) (DH o)=true->XG c B (.loop (DG c B k l es n (done++[e]) (bs++DH o) V av)::k) (.ops ⟨l⟩ [o]) ⟨s.F,s.H,JH l V s.L (DH o)⟩)/\UP l es bs s.L=true/\(∀j∈bs,listed.getD j false=true)/\
  HM c s a w'/\(∀j,listed.getD j false=true->(j∈es/\j∈done)\/(j ∉ es/\j∈av/\ ∀d,F8 l j=some d-> ∀g v,BM V d=some (g,v)->a.tmps[d]? =some (sv g.d v.d)))/\(∀e∈done,listed.getD e false=true)
 let cnt:Array Bool->Nat:=λ b=>(b.toList.filter (λ x=> !x)).length
 have cset: ∀(b:Array Bool) (i:Nat),i<b.size->b.getD i true=false->cnt (b.setIfInBounds i true)+1<=cnt b:=by
  intro b i hi hb
  have key: ∀(m:List Bool) (i:Nat),m[i]? =some false->((m.set i true).filter (λ x=> !x)).length+1=(m.filter (λ x=> !x)).length:=by
   intro m
   induction m with
   |nil=>intro i h;simp at h
   |cons x m ih=>
    intro i h
    cases i with
    |zero=>simp at h;subst h;simp
    |succ i=>
     have:=ih i (by simpa using h)
     cases x<;>simp[List.set_cons_succ,List.filter_cons]<;>omega
  have hb':b.toList[i]? =some false:=by
   simp[Array.getD,hi]at hb
   simp[hi,hb]
  have:=key b.toList i hb'
  simp only[cnt,Array.toList_setIfInBounds]
  omega
 have gd: ∀(b:Array Bool) (i:Nat),i<b.size->b.getD i true=b.getD i false:=λ b i hi=>by simp[Array.getD,hi]
 have y: ∀(b:Array Bool) (i j:Nat),i<b.size->((b.setIfInBounds i true).getD j false=true↔j=i\/b.getD j false=true):=λ b i j hi=>by
  by_cases hji:j=i
  ·subst hji;simp[Array.getD_eq_getD_getElem?,hi]
  ·rw[Array.getD_eq_getD_getElem?,Array.getElem?_setIfInBounds_ne (Ne.symm hji),<-Array.getD_eq_getD_getElem?];simp[hji]
 have look: ∀ {done:List Nat} {s:XS} {V:XE} {av:List Nat} {O:Prop} {E:List Ck},G1 c.T c.N s.F s.H l es done s.L 0 l [] [] ((0:Int)=0) []=some ⟨V,av,O,E⟩->O->A9 E->
   Q1 c s.F s.H l es done s.L l.length V av/\ ∀j,j<l.length->j ∉ es->(∀o,l[j]? =some o-> ∀j'∈DH o,j'∈av\/j'∈done)->j∈av:=by
  intro done s V av O E hq hO hE
  obtain⟨k1,_,_,k4,_⟩:=UO J acyc l 0 [] [] _ [] ⟨V,av,O,E⟩ (by simp) ⟨λ t x hx=>(by cases hx),λ j q=>(by cases q),λ j q=>(by cases q)⟩ hq hO hE
  exact⟨k1,λ j h1 h2 h3=>k4 j (Nat.zero_le _) h1 h2 h3⟩
 have hend: ∀listed a w',Inv listed a w'->listed.size=l.length->Region.ready .any l.toArray listed=[]->post c B k .normal a w':=by
  rintro listed a w' ⟨n,done,bs,s,V,av,O,E,hq,hO,hE,R,_,_,_,hsat,A,hdn⟩ C hr
  have all: ∀i,i<l.length->listed.getD i false=true:=by
   intro i
   induction i using Nat.strongRecOn with
   |_ i ih=>
    intro hi
    cases A:listed.getD i false with
    |true=>rfl
    |false=>
     exfalso
     have:i∈Region.ready .any l.toArray listed:=(dJ C).2 ⟨l[i],by simp[hi],by rw[gd _ _ Aa];exact A,λ j q=>by
      have hlt:=acyc i l[i] (by simp[hi]) j q
      exact ih j hlt Aa⟩
     rw[hr]at this;cases this
  obtain⟨hI,_⟩:=look hq hO hE
  have hdall:FB (λ e=>CG e done) es=true:=NC.2 λ e he=>by
   have hlt:e<l.length:=Nat.le_of_ble_eq_true (NC.1 hes e he)
   rcases A e (all e hlt)with⟨_,h2⟩|⟨h1,_⟩
   ·exact GQ.2 h2
   ·exact absurd he h1
  obtain⟨z,hM⟩:=hsat
  refine R hdall a w' ⟨⟨z.size,z.E4,λ t g v ht=>?_⟩,hM⟩
  obtain⟨g',v',h3,rfl,rfl⟩:=PS ht
  rw[mQ]at h3
  split at h3
  ·rename_i x hx
   cases h3
   obtain⟨j,q,hd⟩:=hI.keys t _ hx
   rcases A j (all j (hI.lt j q).1)with⟨h4,_⟩|⟨_,h5,X⟩
   ·exact absurd h4 (hI.lt j q).2
   ·exact X t hd g' v' hx
  ·exact z.val t _ _ (I8 h3)
 have main: ∀fuel listed a w',Inv listed a w'->listed.size=l.length->cnt listed<=fuel->wpAny c.P .any l.toArray (post c B k) fuel listed a w':=by
  intro fuel
  induction fuel with
  |zero=>
   intro listed a w' hI C hc
   have hr:Region.ready .any l.toArray listed=[]:=by
    refine List.eq_nil_iff_forall_not_mem.2 λ i hi=>?_
    obtain⟨o,ho,h1,_⟩:=(dJ C).1 hi
    have:=cset listed i (by rw[C];exact(List.getElem?_eq_some_iff.1 ho).1) h1
    omega
   exact⟨hr,hend listed a w' hI C hr⟩
  |succ fuel ih=>
   intro listed a w' hI C hc
   refine⟨λ hr=>hend listed a w' hI C hr,λ i hi=>?_⟩
   obtain⟨n,done,bs,s,V,av,O,E,hq,hO,hE,R,hnx,hcb,hbs,hsat,A,hdn⟩:=hI
   obtain⟨o,ho,hnl,hdep⟩:=(dJ C).1 hi
   have hil:=(List.getElem?_eq_some_iff.1 ho).1
   have hnl':listed.getD i false=false:=by rw[<-gd _ _ Aa];exact hnl
   have ho':l.toArray[i]? =some o:=by simpa using ho
   obtain⟨hQ,hcov⟩:=look hq hO hE
   have hdp: ∀j∈DH o,j∈av\/j∈done:=λ j q=>(A j (hdep j q)).elim (λ h=>.inr h.2) (λ h=>.inl h.2.1)
   obtain⟨z,M,hX⟩:=hsat
   have hcs:cnt (listed.setIfInBounds i true)<=fuel:=by have:=cset listed i Aa hnl;omega
   cases hes2:CG i es with
   |true=>
    have hie:=GQ.1 hes2
    have hid:CG i done=false:=by
     cases hh:CG i done with
     |false=>rfl
     |true=>have:=hdn i (GQ.1 hh);rw[hnl']at this;cases this
    have S:=hnx i o ho hes2 hid (NC.2 λ j q=>by rw[Bool.or_eq_true];exact(hdp j q).imp GQ.2 GQ.2)
    have hs2:AW a c.N (XE.d (JH l V s.L (DH o))):=⟨z.size,z.E4,λ t g v ht=>by
     obtain⟨g',v',h3,rfl,rfl⟩:=PS ht
     rcases UN h3 with h4|⟨j,q,hd,h4⟩
     ·exact z.val t _ _ (I8 h4)
     ·obtain⟨j2,hj2,G⟩:=hQ.keys t _ h4
      have hjj:j=j2:=Classical.byContradiction λ hne=>J j j2 t t hd G hne U
      subst hjj
      rcases A j (hdep j q)with⟨h5,_⟩|⟨_,_,X⟩
      ·exact absurd h5 (hQ.lt j hj2).2
      ·exact X t hd g' v' h4⟩
    have h5:=hl _ _ _ _ _ (S a w' ⟨hs2,M,hX⟩)
    refine mN (K:=λ a w=> ∃s',DG c B k l es n (done++[i]) (bs++DH o) V av s'/\HM c s' a w) ho' h5 λ a' D ⟨s',hD,hsat'⟩ hput=>?_
    cases n with
    |zero=>exact hD.elim
    |succ n=>
     obtain⟨V',av',O',E',hq',hO',hE',hst,hav,hcb',hfin',hnx'⟩:=hD
     obtain⟨hQ',_⟩:=look hq' hO' hE'
     refine ih _ a' D ⟨n,done++[i],bs++DH o,s',V',av',O',E',hq',hO',hE',hfin',hnx',hcb',λ j q=>(y _ _ _ Aa).2 (.inr ((List.mem_append.1 q).elim (hbs j) (hdep j))),hsat',λ j q=>?_,λ e he=>?_⟩ (by simp[C]) hcs
     ·rcases(y _ _ _ Aa).1 q with rfl|q
      ·exact .inl ⟨hie,by simp⟩
      ·rcases A j q with⟨X,h7⟩|⟨X,h7,h8⟩
       ·exact .inl ⟨X,by simp[h7]⟩
       ·refine .inr ⟨X,GQ.1 (NC.1 hav j h7),λ d hd g v hv=>?_⟩
        obtain⟨d0,op,ty,ps,af,gd',W,v0,h9,h10,h11⟩:=hQ.ok j h7
        have hd0:d0=d:=by
         have:F8 l j=some d0:=by unfold F8;rw[h9];rfl
         rw[hd]at this;exact(Option.some.inj this).symm
        subst hd0
        have h12:BM V' d0=some (W,v0):=by
         have:BM (GH (keys V) V') d0=some (W,v0):=by rw[hst];exact h10
         exact WR _ _ _ _ _ this
        rw[h12]at hv;cases hv
        rw[hput d0 (λ e=>J i j d0 d0 (by unfold F8;rw[ho];exact e) hd (λ e2=>by subst e2;exact X hie) rfl)]
        exact h8 d0 hd _ _ h10
     ·rcases List.mem_append.1 he with he|he
      ·exact(y _ _ _ Aa).2 (.inr (hdn e he))
      ·rw[List.mem_singleton]at he;subst he;exact(y _ _ _ Aa).2 (.inl rfl)
   |false=>
    have hie:i ∉ es:=λ h=>by rw[GQ.2 h]at hes2;cases hes2
    have hiav:i∈av:=hcov i hil hie λ o2 ho2 j q=>by rw[ho]at ho2;cases ho2;exact hdp j q
    obtain⟨d,op,ty,ps,af,gd',W,v,h9,h10,h11⟩:=hQ.ok i hiav
    rw[ho]at h9;cases h9
    have hdi:F8 l i=some d:=by unfold F8;rw[ho];rfl
    have hLd:BM s.L d=none:=by
     have:=NC.1 hcb i (mO hil)
     have hib:CG i bs=false:=by
      cases hh:CG i bs with
      |false=>rfl
      |true=>have:=hbs i (GQ.1 hh);rw[hnl']at this;cases this
     rw[hes2,hib,mM,hdi]at this
     simp only[Bool.false_or,Bool.not_eq_true']at this
     cases hx:BM s.L d with
     |none=>rfl
     |some x=>have hk:=GQ.2 (mP hx);rw[hk]at this;cases this
    obtain⟨hd,h12⟩:=h11.resolve_left (λ⟨x,hx⟩=>by rw[hLd]at hx;cases hx)
    obtain⟨LL,hLL,hwt,hpv⟩:=h12 a z λ j' hj' d' hd' g u hu=>by
     obtain⟨j2,hj2,G⟩:=hQ.keys d' _ hu
     have hjj:j'=j2:=Classical.byContradiction λ hne=>J j' j2 d' d' hd' G hne U
     subst hjj
     rcases A j' (hdep j' hj')with⟨h5,_⟩|⟨_,_,X⟩
     ·exact absurd h5 (hQ.lt j' hj2).2
     ·exact X d' hd' g u hu
    have S:wpOp c.P l.toArray (post c B k) i (λ a' D=>D=w'/\a'.tmps.size=c.N/\a'.defers=[]/\a'.tmps[d]? =some (sv W.d v.d)/\ ∀t,d≠t->a'.tmps[t]? =a.tmps[t]?) a w':=by
     refine mN (K:=λ a' D=>D=w'/\AW a' c.N ((d,W.d,v.d)::LL)) ho' (RL.v (rest:=[]) (Q:=Exit.then (λ a' D=>D=w'/\AW a' c.N ((d,W.d,v.d)::LL)) (post c B k)) hwt (hpv w' M hX) hd (λ a2 hs2=>(show w'=w'/\AW a2 c.N ((d,W.d,v.d)::LL)from⟨rfl,hs2⟩)) a hLL) λ a' D ⟨e1,e2⟩ e3=>⟨e1,e2.size,e2.E4,e2.val d _ _ (N3 _ _ _ _),λ t ht=>e3 t (λ e=>ht (Option.some.inj e))⟩
    refine wpOp_mono (λ a' D ⟨e0,e1,e2,e3,e4⟩=>?_) S
    subst e0
    have hsl':AW a' c.N s.L.d:=⟨e1,e2,λ t g u ht=>by
     by_cases hdt:d=t
     ·subst hdt
      obtain⟨g',v',h3,_,_⟩:=PS ht
      rw[hLd]at h3;cases h3
     ·rw[e4 t hdt];exact z.val t g u ht⟩
    refine ih _ a' D ⟨n,done,bs,s,V,av,O,E,hq,hO,hE,R,hnx,hcb,λ j q=>(y _ _ _ Aa).2 (.inr (hbs j q)),⟨hsl',M,hX⟩,λ j q=>?_,λ e he=>(y _ _ _ Aa).2 (.inr (hdn e he))⟩ (by simp[C]) hcs
    rcases(y _ _ _ Aa).1 q with rfl|q
    ·refine .inr ⟨hie,hiav,λ d2 G g u hu=>?_⟩
     rw[hdi]at G;cases G
     rw[h10]at hu;cases hu;exact e3
    ·rcases A j q with X|⟨X,h7,h8⟩
     ·exact .inl X
     ·refine .inr ⟨X,h7,λ d2 G g u hu=>?_⟩
      have hne:d≠d2:=J i j d d2 hdi G (λ e=>by subst e;rw[hnl']at q;cases q)
      rw[e4 d2 hne];exact h8 d2 G g u hu
 cases n with
 |zero=>exact h.elim
 |succ n=>
  obtain⟨V,av,O,E,hq,hO,hE,_,_,hcb,R,hnx⟩:=h
  obtain⟨z,M,hX⟩:=hs
  refine main _ _ a _ ⟨n,[],[],s,V,av,O,E,hq,hO,hE,R,hnx,hcb,(λ j q=>by cases q),⟨z,M,hX.st.ext (Ext.drew w),hX.f,hX.le⟩,λ j q=>?_,(λ e he=>by cases he)⟩ (by simp) ?_
  ·exfalso
   rcases Nat.lt_or_ge j l.length with h|h
   ·simp[Array.getD,h]at q
   ·simp[Array.getD,Nat.not_lt.2 h]at q
  ·simp[cnt]
section
variable {c:Cx} {B:Exit->Act->World->Prop} {k k':List Fr} {m:Md} {s s':XS} {O:Prop} {E:List Ck} {l:List Oper} {es done bs:List Nat} {n:Nat} {V0 V:XE} {av0 av:List Nat}
def OC(l:List Oper)(done av:List Nat):List Nat->List Nat
 |[]=>[]
 |e::es=>match CG e done with
  |true=>OC l done av es
  |false=>match nth l e with
   |none=>OC l done av es
   |some o=>match FB (λ j=>CG j av||CG j done) (DH o)with
    |true=>e::OC l done av es
    |false=>OC l done av es
theorem dK{e:Nat}{o:Oper}(ho:l[e]? =some o)(hd:CG e done=false)(i:FB (λ j=>CG j av||CG j done) (DH o)=true): ∀ {es:List Nat},e∈es->e∈OC l done av es
 |x::es,h=>by
  unfold OC
  by_cases hx:e=x
  ·subst hx
   rw[hd]
   have:nth l e=some o:=by rw[I9];exact ho
   rw[this]
   dsimp only
   rw[i]
   exact .head _
  ·have k:e∈es:=by rcases List.mem_cons.1 h with rfl|h;exact absurd rfl hx;exact h
   have b:=dK ho hd i k
   split
   ·exact b
   ·split
    ·exact b
    ·split
     ·exact .tail _ b
     ·exact b
theorem EJ(es:List Nat)(n:Nat){id:Nat}(hl: ∀ops Q l a w,c.W.list ops Q l a w->wpList c.P ops Q l a w)(h:run c.T c.N k m s=⟨k',.code (.region id ⟨l⟩ true),s',O,E⟩)(hm:c.P.follows .mixedOrders=true)(b:(WH l []&&FB (λ e=>Nat.blt e l.length) es)=true)(i:DG c B k' l es n [] [] [] [] s')(hE:A9 E:=by exact Ad)(hO:O:=by exact Af):XG c B k m s:=by
 rw[Bool.and_eq_true]at b
 exact C5 h hE hO λ a w j=>c.W.drawS (mR (id:=id) es n hl hm b.1 b.2 i j)
theorem BV(i:G1 c.T c.N s.F s.H l es done s.L 0 l [] [] ((0:Int)=0) []=some ⟨V,av,O,E⟩)(q:GH (keys V0) V=V0)(b:(FB (λ j=>CG j av) av0,UP l es bs s.L,FB (λ e=>CG e done) es)=(true,true,true))
  (w:XG c B k .next ⟨s.F,s.H,V++s.L⟩) (hE:A9 E:=by exact Ad) (hO:O:=by exact Af):DG c B k l es (n+1) done bs V0 av0 s:=by
 simp only[Prod.mk.injEq]at b
 exact⟨V,av,O,E,i,hO,hE,q,b.1,b.2.1,λ _=>w,λ e o _ h1 h _=>by rw[NC.1 b.2.2 e (GQ.1 h1)]at h;cases h⟩
theorem AL(e:Nat){o:Oper}(q:G1 c.T c.N s.F s.H l es done s.L 0 l [] [] ((0:Int)=0) []=some ⟨V,av,O,E⟩)(w:GH (keys V0) V=V0)(i:(FB (λ j=>CG j av) av0,UP l es bs s.L,FB (λ e=>CG e done) es,OC l done av es,nth l e)=(true,true,false,[e],some o))
  (y:XG c B (.loop (DG c B k l es n (done++[e]) (bs++DH o) V av)::k) (.ops ⟨l⟩ [o]) ⟨s.F,s.H,JH l V s.L (DH o)⟩) (hE:A9 E:=by exact Ad) (hO:O:=by exact Af):DG c B k l es (n+1) done bs V0 av0 s:=by
 simp only[Prod.mk.injEq]at i
 obtain⟨z,c2,c3,c4,c5⟩:=i
 refine⟨V,av,O,E,q,hO,hE,w,z,c2,(λ h=>by rw[c3]at h;cases h),λ D G b h1 A C=>?_⟩
 have:=dK b A C (GQ.1 h1)
 rw[c4,List.mem_singleton]at this
 subst this
 rw[I9,b]at c5;cases c5
 exact y
theorem H3(q e2:Nat){i o2:Oper}(C:G1 c.T c.N s.F s.H l es done s.L 0 l [] [] ((0:Int)=0) []=some ⟨V,av,O,E⟩)(D:GH (keys V0) V=V0)(z:(FB (λ j=>CG j av) av0,UP l es bs s.L,FB (λ e=>CG e done) es,OC l done av es,nth l q,nth l e2)=(true,true,false,[q,e2],some i,some o2))
  (w:XG c B (.loop (DG c B k l es n (done++[q]) (bs++DH i) V av)::k) (.ops ⟨l⟩ [i]) ⟨s.F,s.H,JH l V s.L (DH i)⟩)
  (y:XG c B (.loop (DG c B k l es n (done++[e2]) (bs++DH o2) V av)::k) (.ops ⟨l⟩ [o2]) ⟨s.F,s.H,JH l V s.L (DH o2)⟩) (hE:A9 E:=by exact Ad) (hO:O:=by exact Af):DG c B k l es (n+1) done bs V0 av0 s:=by
 simp only[Prod.mk.injEq]at z
 obtain⟨G,c2,c3,c4,c5,A⟩:=z
 refine⟨V,av,O,E,C,hO,hE,D,G,c2,(λ h=>by rw[c3]at h;cases h),λ M P b h1 J K=>?_⟩
 have:=dK b J K (GQ.1 h1)
 rw[c4]at this
 rcases List.mem_cons.1 this with rfl|this
 ·rw[I9,b]at c5;cases c5;exact w
 ·rw[List.mem_singleton]at this
  subst this
  rw[I9,b]at A;cases A;exact y
theorem AI{J:XS->Prop}(h:run c.T c.N k m s=⟨.loop J::k',.next,s',O,E⟩)(b:J s')(hE:A9 E:=by exact Ad)(hO:O:=by exact Af):XG c B k m s:=
 C5 h hE hO λ a w e=>⟨s',b,e⟩
theorem mS(s2:XS)(hF:s2.F=s.F)(hH:HD s2.H=HD s.H)(e:s2.L.d=s.L.d)(h:XG c B k m s2):XG c B k m s:=λ a w ⟨h1,M,b⟩=>h a w ⟨by rw[e];exact h1,M,by rw[hH];exact b.st,by rw[hF];exact b.f,b.le⟩
theorem XB{α:Type}[Inhabited α](kk:Nat)(e:TypeId)(sz:Nat)(f:α->List Value)(h: ∀x,(f x).length=sz)
  (i:XG c B k m ⟨(kk,kn (.slice none 0 0) sz ([]:List α) f)::s.F,(kk,.ho (.own e sz (.slice none 0 0) ([]:List α).length (([]:List α).flatMap f)))::s.H,s.L⟩):XG c B k m s:=
 λ a w ⟨h1,M,b⟩=>i a w ⟨h1,M,b.st.kJ e sz,AA ⟨Sl.nil M sz,h,trivial⟩ b.f,b.le⟩
theorem AF7{α:Type}[inh:Inhabited α](kk:Nat)(e:TypeId)(sz:Nat)(f:α->List Value)(h: ∀x,(f x).length=sz)
  (i:XG c B k m ⟨s.F,(kk,.pv e (@kn α inh (.slice none 0 0) sz [] f) h)::s.H,s.L⟩):XG c B k m s:=
 λ a w ⟨h1,M,b⟩=>i a w ⟨h1,M,b.st.cC e sz,b.f,b.le⟩
theorem XC(kk:Nat){α:Type}{inh:Inhabited α}{v:Value}{sz:Nat}{r:List α}{f:α->List Value}{g:Mem->Prop}{hg: ∀M M',M.le M'->g M->g M'}(e:O7 s.F s.H kk=some (@Kn.mk α inh v sz r f g hg))(h: ∀a q,v= .slice a r.length q->XG c B k m s):XG c B k m s:=λ a w ⟨h1,M,b⟩=>by
 obtain⟨M',Hs',_,i⟩:=RO b.f b.st e
 obtain⟨p,q,j,_⟩:=i.sl.val
 exact h p q j a w ⟨h1,M,b⟩
theorem D5.C8 {F:List (Nat×Kn)}{H:List (Nat×HX)}{w:World}{M:Mem}(ids:List Nat){A R:List (Nat×HX)}(h:D5 c F H w M)(b:FK ids H=some (A,R)):St c.w0 c.M0 w M (HD A++c.Hr):=by
 have h1:St c.w0 c.M0 w M (HD A++(HD R++c.Hr)):=h.st.perm (by rw[<-List.append_assoc];exact(PY b).append_right _)
 exact h1.drop _ (List.Sublist.append_left (List.sublist_append_right _ _) _)
theorem mT{all:Array Oper}{rest:List Oper}{d:Nat}{ty:TypeId}{ps:String}{af:Array Edge}{f:FuncId}{xs:List Operand}{tys:Array TypeId}{vs:List XV}{E2:List Ck}{u:Value}{v:XV}(j:Sat c.w0 c.M0)(l:c.Hr=[])(hle:c.M1=c.M0)
  (h:run c.T c.N k m s=⟨k',.ops all (⟨some d,.call ⟨.value (.func f),⟨xs⟩,tys⟩,ty,ps,af,none⟩::rest),s',O,E⟩) (n:CT c.P f) (hx:JZ s'.L .t xs=some (vs,E2))
  (q: ∀w M,D5 c s'.F s'.H w M->Calls c.P f (vs.map XV.d).toArray w (λ e w'=>e= .returned u/\Ext c.w0 w')) (y:vx u=some v) (z:XG c B k' (.ops all rest) ⟨[],[],(d,.t,v)::s'.L⟩) (hE:A9 E:=by exact Ad) (hO:O:=by exact Af) (hd:Nat.blt d c.N=true:=by exact rfl) (hE2:A9 E2:=by exact Ad):XG c B k m s:=by
 refine C5 h hE hO λ a w ⟨i,M,A⟩=>?_
 have b:=MB hx hE2
 refine c.W.one <|wpList_plain U λ K C=>?_
 have D:(⟨xs⟩:Array Operand)=xs.toArray:=rfl
 have key:=RC (P:=c.P) (w:=w) n b i U (d:=some d) (tys:=tys) (ty:=ty) (ps:=ps) (af:=af) (gd:=none)
 rw[D]
 simp only[Oper.wp,key,Oper.upon_enter]
 refine(q w M A).mono λ e w' ⟨he,hw⟩=>?_
 subst he
 have hp:=S0 i hd v
 rw[cQ y]at hp
 exact C _ _ (c.W.back (z _ w' ⟨hp,c.M0,by show St _ _ _ _ ([]++c.Hr);rw[l];exact(Aj j).ext hw,A3,by rw[hle];exact Mem.le.refl _⟩))
end
theorem xsj{c:Cx}{B:Exit->Act->World->Prop}{k k':List Fr}{m:Md}{s s':XS}{x z:Code}{O:Prop}{E:List Ck}(n:Nat)(J:XS->Prop)(h:exec c.T c.N n k m s.F s.H s.L ((0:Int)=0) []=⟨k',.code (.seq x z),s',O,E⟩)(h1:XG c B (.loop J::k') (.code x) s')(i: ∀s',J s'->XG c B k' (.code z) s')(hE:A9 E:=by exact Ad)(hO:O:=by exact Af):XG c B k m s:=by
 have:=GP (c:=c) (B:=B) n k m s.F s.H s.L ((0:Int)=0) []
 rw[h]at this
 refine(this hO hE λ a w b=>c.W.seq ?_).2.2
 have hm: ∀e a w,post c B (.loop J::k') e a w->Exit.then (c.W.wp z (post c B k')) (post c B k') e a w:=λ e a w h=>RZ (λ a w ⟨s',j,b⟩=>i s' j a w b) (λ _ _ _ h=>h) e a w h
 exact c.W.mono (h1 a w b) hm
end Go.Eng
