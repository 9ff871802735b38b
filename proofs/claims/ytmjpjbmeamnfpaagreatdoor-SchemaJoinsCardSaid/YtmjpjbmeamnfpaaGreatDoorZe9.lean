/-
  Parts Xs Xt Xu Xv Xz Num, put together and made short by wip/py/merge.py (mini.py).
-/
import Derived.Test.YtmjpjbmeamnfpaaGreatDoorZe8
import Derived.TacticsIn
import Derived.LoopIn
import Derived.RangeFuncCalls
import Derived.RangeFuncIn
import Derived.RangeFuncLeaves
import Derived.RangeFuncSeq
import Derived.RangeFuncRecord
import Derived.Test.YtmjpjbmeamnfpaaGreatDoorZe7
import Derived.Test.YtmjpjbmeamnfpaaGreatDoorZe3
import Derived.Shelf.Strings.SlTrimAscii
import Derived.Lib.ItoaNum
import Derived.Lib.Bytealg
import Derived.Lib.AtoiAll
import Derived.Test.YtmjpjbmeamnfpaaGreatDoorZe0
set_option linter.unusedVariables false
set_option linter.unusedSimpArgs false
namespace Go.Eng
open Go.RowKit
abbrev FR(ro:Option Nat):Fence:= { Fence.wide with round:=ro}
theorem qN{n:Nat}{P:Program}{row:String}{args:Array Value}{w:World}{R:Value->World->Prop}(h:Rows P row args w R):RowsIn Fence.wide n P row args w R:=
 λ c cs _=>let⟨v,w',r,s⟩:=h c cs;⟨v,w',r,stepsIn_wide.2 s⟩
def JV(o:Oper):Bool:=match o.op with
 | .defer _=>false
 |_=>true
theorem qO{o:Oper}(h:JV o=true): ∀c,o.op≠ .defer c:=λ c e=>by unfold JV at h;rw[e]at h;cases h
theorem TN{K:Act->World->Prop}{Q:Exit->Act->World->Prop}(h: ¬LetsOut Q): ¬LetsOut (Exit.then K Q):=λ⟨a,w,x⟩=>h ⟨a,w,x⟩
theorem qP{id:Nat}{Q:Exit->Act->World->Prop}(h: ¬LetsOut Q): ¬LetsOut (Exit.inBlock id Q):=λ⟨a,w,x⟩=>h ⟨a,w,x⟩
theorem dP{P:Program}{ro:Option Nat}{n:Nat}{o:Oper}{a:Act}{w:World}{K:Act->World->Prop}{Q:Exit->Act->World->Prop}(hd:JV o=true)(h:o.wp P a w K Q):o.wpIn (FR ro) n P a w K Q:=by
 refine⟨λ _ _=>trivial,?_⟩
 rw[show(FR ro).round=ro from rfl,show Oper.semAt ro a.eval o=execOp a.eval o by cases ro with|none=>rfl|some l=>exact Oper.semAt_some l a.eval o (qO hd)]
 unfold Oper.wp at h
 generalize (execOp a.eval o).run P w=r at*
 have hdep:((FR ro).depth.isSome=true->1<=n):=λ h=>by cases h
 cases r with
 |ok x w'=>
  cases x with
  |enter f args=>exact⟨hdep,callsIn_wide.2 h⟩
  |row r args=>exact⟨hdep,qN h⟩
  |round l2 f t vs b=>exact absurd h (by simp[Oper.upon])
  |_=>exact h
 |halt s w'=>cases s<;>exact h
theorem TO{P:Program}{ro:Option Nat}{n:Nat}{ops:Array Oper}{Q:Exit->Act->World->Prop}(hl: ¬LetsOut Q)(hd:ops.toList.all JV=true): ∀(l:List Nat) (a:Act) (w:World),wpOps P ops Q l a w->wpOpsIn (FR ro) n P ops Q l a w
 |[],a,w,h=>h
 |i::l,a,w,h=>by
  unfold wpOps at h
  unfold wpOpsIn
  cases ho:ops[i]? with
  |none=>rw[ho]at h;exact TO hl hd l a w h
  |some o=>
   rw[ho]at h
   dsimp only at h ⊢
   split at h
   ·rename_i hw;rw[if_pos hw]
    rcases h with h|⟨_,h2⟩
    ·have hno:JV o=true:=List.all_eq_true.1 hd o (by rw[Array.mem_toList_iff];exact Array.mem_of_getElem? ho)
     exact dP hno (Oper.wp_mono (λ a w k=>TO hl hd l a w k) h)
    ·exact absurd h2 hl
   ·rename_i hw;rw[if_neg hw]
    exact⟨λ _ _=>trivial,TO hl hd l _ w h⟩
def Wk.TP (P:Program)(ro:Option Nat)(n:Nat):Wk P where
 wp:=λ x Q a w=> ¬LetsOut Q->CR x=true->x.wpIn (FR ro) n P Q a w
 list:=λ ops Q rest a w=> ¬LetsOut Q->rest.all JV=true->wpListIn (FR ro) n P ops Q rest a w
 mono:=λ h hq hl hs=>wpIn_mono (h (λ⟨a,w,x⟩=>hl ⟨a,w,hq _ _ _ x⟩) hs) hq
 skip:=λ h _ _=>wpIn_skip h
 seq:=λ{x y Q a w} h hl hs=>by
  have hs2:CR x=true/\CR y=true:=by simpa[CR]using hs
  refine wpIn_seq (wpIn_mono (h (TN hl) hs2.1) λ e a w q=>?_)
  exact OC (λ a w k=>k hl hs2.2) (λ _ _ _ h=>h) e a w q
 region:=λ{id ops Q a w} h hl hs=>by
  have hs2:ops.toList.all JV=true:=by
   simp only[CR]at hs
   exact hs
  exact wpIn_region_list (h hl hs2)
 plain:=False
 draw:=λ h=>h.elim
 drawS:=λ{id ops Q a w} h hl hs=>by
  have hs2:ops.toList.all JV=true:=by
   simp only[CR]at hs
   exact hs
  exact wpIn_region_draw λ t=>TO hl hs2 _ a _ (h t)
 block:=λ h hl hs=>wpIn_block (h (qP hl) hs)
 scope:=λ h hl hs=>by simp[CR]at hs
 exit:=λ h _ _=>wpIn_exit h
 ret:=λ h _ _=>wpIn_ret h
 cond:=λ{o x y t Q a w} hc h hl hs=>by
  have hs2:CR x=true/\CR y=true:=by simpa[CR]using hs
  refine wpIn_cond hc (h hl ?_)
  split
  ·exact hs2.1
  ·exact hs2.2
 loop:=λ{σ x Q a w} J μ s₀ h₀ hr hl hs=>by
  intro b k cs hro hb hrm
  have key: ∀j s a w,μ s=j->J s a w->
    ∃e a' w',Q e a' w'/\ArrivesIn (Machine.fenced P (FR ro)) P (lone (b.atR a (.code x:: .inLoop x::k)) cs w) b k cs e a' w':=by
   intro j
   induction j using Nat.strongRecOn with
   |_ j ih=>
    intro s a w hn hJ
    obtain⟨e,a₁,w₁,hq,harr⟩:=hr s a w hJ (TN hl) hs b (.inLoop x::k) cs hro hb hrm
    cases e with
    |normal=>
     obtain⟨s',hJ',hlt⟩:=hq
     obtain⟨e₂,a₂,w₂,hq₂,harr₂⟩:=ih (μ s') (hn▸hlt) s' a₁ w₁ rfl hJ'
     exact⟨e₂,a₂,w₂,hq₂,.of_steps (StepsIn.trans harr (.one (fenced_calm hb hrm U) stepR_inLoop)) harr₂⟩
    |exit id=>exact⟨_,a₁,w₁,hq,.pass (x:=.inLoop x) U (λ _ _=>.inl (by simp)) harr⟩
    |goto l=>exact⟨_,a₁,w₁,hq,.pass (x:=.inLoop x) U (λ _ _=>.inl (by simp)) harr⟩
    |ret=>exact⟨_,a₁,w₁,hq,.pass (x:=.inLoop x) U (λ _ _=>.inl (by simp)) harr⟩
    |panic ch=>exact⟨_,a₁,w₁,hq,.pass (x:=.inLoop x) U (λ _ _=>.inl (by simp)) harr⟩
    |outgrown=>exact⟨_,a₁,w₁,hq,.pass (x:=.inLoop x) U (λ _ _=>.inl (by simp)) harr⟩
  obtain⟨e,a',w',hq,harr⟩:=key _ s₀ a w rfl h₀
  exact⟨e,a',w',hq,.of_steps (.one (fenced_calm hb hrm U) stepR_loop) harr⟩
 nil:=λ h _ _=>h
 one:=λ{ops Q o rest a w} h hl hs=>by
  rw[List.all_cons,Bool.and_eq_true]at hs
  unfold wpList at h
  unfold wpListIn
  split at h
  ·rename_i hw;rw[if_pos hw]
   rcases h with h|⟨_,a',w',h2⟩
   ·have h3:=Q9 h
    have h4:o.wp P a w (wpListIn (FR ro) n P ops Q rest) Q:=Oper.wp_mono (λ a w (k: ¬LetsOut Q->rest.all JV=true->_)=>k hl hs.2) h3
    exact dP hs.1 h4
   ·exact absurd ⟨a',w',h2⟩ hl
  ·rename_i hw;rw[if_neg hw]
   have h': ¬LetsOut Q->rest.all JV=true->_:=h
   exact⟨λ _ _=>trivial,h' hl hs.2⟩
 want:=λ{ops Q d op ty ps af gd rest a w} hw h hl hs=>by
  have:=h hl hs
  unfold wpListIn at this ⊢
  rw[hw,if_pos U]
  rw[show Region.wanted ⟨d,op,ty,ps,af,none⟩ (yielded ops a.tmps)=true from rfl,if_pos U]at this
  exact this
abbrev Wk.round (P:Program)(l n:Nat):Wk P:=Wk.TP P (some l) n
end Go.Eng
namespace Go.Eng
open Go.RowKit
def CM(ds:List Deferred)(a:Act):Act:= { a with defers:=a.defers++ds}
def OF(ds:List Deferred)(Q:Exit->Act->World->Prop):Exit->Act->World->Prop:=λ e a w=> ∃a0,a=CM ds a0/\Q e a0 w
theorem MN(ds:List Deferred)(a:Act)(d:Option Tmp)(v:Value):(CM ds a).put d v=CM ds (a.put d v):=by cases d<;>rfl
theorem dQ{P:Program}{ds:List Deferred}{o:Oper}{a:Act}{w:World}{K:Act->World->Prop}{Q:Exit->Act->World->Prop}(h:o.wp P a w K Q):
  o.wp P (CM ds a) w (λ a' w'=> ∃a0,a'=CM ds a0/\K a0 w') (OF ds Q):=by
 unfold Oper.wp at*
 rw[show(CM ds a).eval=a.eval from rfl]
 generalize (execOp a.eval o).run P w=r at*
 cases r with
 |ok x w'=>
  cases x with
  |value v=>exact⟨_,MN _ _ _ _,h⟩
  |skip=>exact⟨_,MN _ _ _ _,h⟩
  |defer d=>exact⟨_,MN ds { a with defers:=d::a.defers} _ _,h⟩
  |enter f args=>
   refine Calls.mono h λ e w'' k=>?_
   cases e with
   |returned v=>exact⟨_,MN _ _ _ _,k⟩
   |panicked ch=>exact⟨_,rfl,k⟩
   |outgrown=>obtain⟨a0,w0,k⟩:=k;exact⟨_,w0,a0,rfl,k⟩
  |row r args=>exact Rows.mono h λ v w'' k=>⟨_,MN _ _ _ _,k⟩
  |_=>exact h
 |halt s w'=>cases s<;>first|exact h|exact⟨_,rfl,h⟩
theorem TQ{P:Program}{ds:List Deferred}{ops:Array Oper}{Q:Exit->Act->World->Prop}: ∀(l:List Nat) (a:Act) (w:World),wpOps P ops Q l a w->wpOps P ops (OF ds Q) l (CM ds a) w
 |[],a,w,h=>⟨a,rfl,h⟩
 |i::l,a,w,h=>by
  unfold wpOps at h ⊢
  cases ho:ops[i]? with
  |none=>rw[ho]at h;exact TQ l a w h
  |some o=>
   rw[ho]at h
   dsimp only at h ⊢
   rw[show(CM ds a).tmps=a.tmps from rfl]
   split at h
   ·rename_i hw;rw[if_pos hw]
    rcases h with h|⟨h1,a',w',h2⟩
    ·exact .inl (Oper.wp_mono (λ a' w' ⟨a0,e0,k⟩=>by subst e0;exact TQ l a0 w' k) (dQ h))
    ·exact .inr ⟨h1,_,w',a',rfl,h2⟩
   ·rename_i hw;rw[if_neg hw,MN];exact TQ l _ w h
def Wk.CD (P:Program)(ds:List Deferred):Wk P where
 wp:=λ x Q a w=>CR x=true->x.wp P (OF ds Q) (CM ds a) w
 list:=λ ops Q l a w=>wpList P ops (OF ds Q) l (CM ds a) w
 mono:=λ h hq hs=>wp_mono (h hs) λ e a w ⟨a0,e0,q⟩=>⟨a0,e0,hq _ _ _ q⟩
 skip:=λ h _=>wp_skip ⟨_,rfl,h⟩
 seq:=λ{x y Q a w} h hs=>by
  have hs2:CR x=true/\CR y=true:=by simpa[CR]using hs
  refine wp_seq (wp_mono (h hs2.1) λ e a w ⟨a0,e0,q⟩=>?_)
  subst e0
  cases e with
  |normal=>exact q hs2.2
  |_=>exact⟨a0,rfl,q⟩
 region:=λ h _=>wp_region_list h
 plain:=False
 draw:=λ h=>h.elim
 drawS:=λ h _=>wp_region_draw λ t=>TQ _ _ _ (h t)
 block:=λ{id x Q a w} h hs=>wp_block (wp_mono (h hs) λ e a w ⟨a0,e0,q⟩=>by
  subst e0
  cases e with
  |exit id'=>
   show if id'=id then _ else _
   have q':if id'=id then Q .normal a0 w else Q (.exit id') a0 w:=q
   split<;>rename_i hid
   ·rw[if_pos hid]at q';exact⟨a0,rfl,q'⟩
   ·rw[if_neg hid]at q';exact⟨a0,rfl,q'⟩
  |_=>exact⟨a0,rfl,q⟩)
 scope:=λ h hs=>by simp[CR]at hs
 exit:=λ h _=>wp_exit ⟨_,rfl,h⟩
 ret:=λ h _=>wp_ret ⟨_,rfl,h⟩
 cond:=λ{o x y t Q a w} hc h hs=>by
  have hs2:CR x=true/\CR y=true:=by simpa[CR]using hs
  refine wp_cond (t:=t) (by rw[show(CM ds a).eval=a.eval from rfl];exact hc) (h ?_)
  split
  ·exact hs2.1
  ·exact hs2.2
 loop:=λ{σ x Q a w} J μ s₀ h₀ hr hs=>by
  refine dG (λ s a w=> ∃a0,a=CM ds a0/\J s a0 w) μ s₀ ⟨a,rfl,h₀⟩ λ s a w ⟨a0,e0,hJ⟩=>?_
  subst e0
  refine wp_mono (hr s a0 w hJ hs) λ e a w ⟨a1,e1,q⟩=>?_
  subst e1
  cases e with
  |normal=>obtain⟨s',h1,h2⟩:=q;exact⟨s',⟨a1,rfl,h1⟩,h2⟩
  |_=>exact⟨a1,rfl,q⟩
 nil:=λ h=>⟨_,rfl,h⟩
 one:=λ{ops Q o rest a w} h=>by
  unfold wpList at h ⊢
  rw[show(CM ds a).tmps=a.tmps from rfl]
  split at h
  ·rename_i hw;rw[if_pos hw]
   rcases h with h|⟨h1,a',w',h2⟩
   ·exact .inl (Oper.wp_mono (λ a' w' ⟨a0,e0,k⟩=>by subst e0;exact k) (dQ (Q9 h)))
   ·exact .inr ⟨h1,_,w',a',rfl,h2⟩
  ·rename_i hw;rw[if_neg hw,MN];exact h
 want:=λ{ops Q d op ty ps af gd rest a w} hw h=>by
  unfold wpList at h ⊢
  rw[show(CM ds a).tmps=a.tmps from rfl]at h ⊢
  rw[hw,if_pos U]
  rw[show Region.wanted ⟨d,op,ty,ps,af,none⟩ (yielded ops a.tmps)=true from rfl,if_pos U]at h
  exact h
end Go.Eng
namespace Go.Eng
open Go.RowKit
section
variable {w0 w:World} {M0 M:Mem} {Hs:List HO} {o:Obj} {b:Nat}
theorem St.XM (h:St w0 M0 w M Hs){k:Nat}(hk:Hs[k]? =some (.raw b o))(o':Obj):St w0 M0 (w.putObj b o') M (Hs.set k (.raw b o')):=by
 obtain⟨h1,h2,h3⟩:=h.obj hk
 have hlt:b<w.heap.size:=by
  rcases Nat.lt_or_ge b w.heap.size with h'|h'
  ·exact h'
  ·simp[h']at h2
 refine h.write hk ⟨rfl,rfl,rfl,by rw[World.putObj_size];exact Nat.le_refl _,λ k hk=>World.putObj_heap_other (by omega)⟩ ⟨λ b' o2 v hv=>?_⟩ (λ _ _ _=>rfl) (λ b' _ hne=>World.putObj_heap_other (λ e=>hne (by rw[e];rfl))) (λ _ _ _ _=>rfl) ⟨h1,World.putObj_heap_same hlt,h3⟩ (λ _ hb=>.inl hb)
 have hne:b'≠b:=λ e=>by subst e;rw[h3]at hv;cases hv
 have:=h.sat.cell b' o2 v hv
 simp only[World.cell?,World.putObj_heap_other hne]at this ⊢;exact this
end
abbrev dR(P:Program)(l:Nat)(vs:Array Value)(w:World)(R:Ending->World->Prop):Prop:=YieldAt Fence.wide 0 P l vs w R
def pz:List Tmp->List XV->XE->XE
 |t::ts,v::vs,L=>pz ts vs ((t,.t,v)::L)
 |_,_,L=>L
def OG(N:Nat):List Tmp->List XV->Bool
 |[],[]=>true
 |t::ts,_::vs=>Nat.blt t N&&OG N ts vs
 |_,_=>false
theorem dS{N:Nat}: ∀(ps:List Tmp) (vs:List XV) {L:XE} {a:Act},OG N ps vs=true->AF a N L.d->
  AF { tmps:=(ps.zip (vs.map XV.d)).foldl (λ t (x:Tmp×Value)=>t.setIfInBounds x.1 x.2) a.tmps,defers:=[]} N (pz ps vs L).d
 |[],[],L,a,_,hs=>⟨hs.size,rfl,hs.val⟩
 |t::ts,v::vs,L,a,h,hs=>by
  unfold OG at h
  rw[Bool.and_eq_true]at h
  exact dS ts vs (a:=a.put (some t) v.d) h.2 (QH hs h.1 v)
 |[],_::_,_,_,h,_=>by cases h
 |_::_,[],_,_,h,_=>by cases h
abbrev DJ:Obj:=.deferred (some [])
def cR(c:Cx)(l D:Nat)(r:Obj)(M:Mem):Cx:= { c with M1:=M,Hr:=.raw l r:: .raw D DJ::c.Hr,W:=Wk.round c.P l 0}
theorem XN{c:Cx}{l D:Nat}{r r':Obj}{M:Mem}{s:XS}{a:Act}{w:World}(h:FJ (cR c l D r M) s a w):w.heap[l]? =some r/\FJ (cR c l D r' M) s a (w.putObj l r'):=by
 obtain⟨h1,M',h2,h3,h4⟩:=h
 have h2:St c.w0 c.M0 w M' (HD s.H++(.raw l r:: .raw D DJ::c.Hr)):=h2
 have hi:(HD s.H++(.raw l r:: .raw D DJ::c.Hr))[(HD s.H).length]? =some (.raw l r):=by simp
 refine⟨(h2.obj hi).2.1,h1,M',?_,h3,h4⟩
 have:=h2.XM hi r'
 have e:(HD s.H++(.raw l r:: .raw D DJ::c.Hr)).set (HD s.H).length (.raw l r')=HD s.H++(.raw l r':: .raw D DJ::c.Hr):=by simp
 rw[e]at this;exact this
abbrev nB:Exit->Act->World->Prop:=λ _ _ _=>False
theorem qQ: ¬LetsOut nB:=λ⟨_,_,h⟩=>h
theorem dT{N:Nat}: ∀ {ps:List Tmp} {vs:List XV},OG N ps vs=true->vs.length=ps.length
 |[],[],_=>rfl
 |t::ts,v::vs,h=>by
  unfold OG at h
  rw[Bool.and_eq_true]at h
  simp[dT h.2]
 |[],_::_,h=>by cases h
 |_::_,[],h=>by cases h
theorem D4.sub {c:Cx}{s s':XS}{w:World}{M:Mem}(h:D4 c s.F s.H w M)(hs:s'.sub s):D4 c s'.F s'.H w M:=by
 obtain⟨_,k2,R,k3⟩:=hs
 refine⟨?_,k2 M h.f,h.le⟩
 have hp:((HD s'.H++c.Hr)++R).Perm (HD s.H++c.Hr):=by
  refine List.Perm.trans ?_ (k3.append_right c.Hr)
  rw[List.append_assoc,List.append_assoc]
  exact(List.perm_append_comm).append_left _
 exact(h.st.perm hp).drop _ (List.sublist_append_left _ _)
theorem qR{A B:List HO}{x y:HO}:(A++(x::y::B)).Perm (x::y::(A++B)):=
 List.perm_middle.trans ((List.perm_middle).cons x)
end Go.Eng
namespace Go.Eng
open Go.RowKit
structure KC (P:Program) (fn:Func) (R:Ending->World->Prop) (Q:Exit->Act->World->Prop):Prop where
 all: ∀e a w,bodyPostM Fence.wide 1 P fn R e a w->Q e a w
theorem dU{P:Program}{N:Nat}{w0 w:World}{M0 M:Mem}{Hr:List HO}{T:TT}(hT:DI P T){f:FuncId}{fn:Func}{x:Code}{R:Ending->World->Prop}(hf:P.funcs[f]? =some fn)(hb:fn.body=some x)(hn:fn.ntmps=N)
  (F:List (Nat×Kn)) (H:List (Nat×HX)) (vs:List XV) (hl:Nat.ble vs.length N=true) (hS:St w0 M0 w M (HD H++Hr)) (hF:B7 M F)
  (h: ∀B,KC P fn R B->XG ⟨P,N,w0,M0,M,Hr,T,hT,.wide P⟩ B [] (.code x) ⟨F,H,K9 0 vs⟩) {av:List Value} (ha:vs.map XV.d=av):Calls P f av.toArray w R:=by
 subst ha
 refine(callsIn_wide (n:=1)).1 (callsIn_of_wp_marks hf hb trivial (wpIn_wide.2 ?_) U)
 rw[hn]
 have hs:=AF.enter (vs.map XV.d) N (by rw[List.length_map];exact Nat.le_of_ble_eq_true hl)
 exact h _ ⟨λ _ _ _ h=>h⟩ _ w ⟨by rw[<-O5]at hs;exact hs,M,hS,hF,Mem.le.refl _⟩
theorem KC.ends {P:Program}{fn:Func}{R:Ending->World->Prop}{Q:Exit->Act->World->Prop}(E:KC P fn R Q):Ends P fn R Q:=⟨λ e a w h=>E.all e a w (by
 cases e with
 |normal=>obtain⟨hd,h⟩:=h;show LeavesInM _ _ _ _ _ _ a.defers _ _;rw[hd];exact h
 |ret=>obtain⟨hd,h⟩:=h;show LeavesInM _ _ _ _ _ _ a.defers _ _;rw[hd];exact h
 |panic ch=>obtain⟨hd,h⟩:=h;show LeavesInM _ _ _ _ _ _ a.defers _ _;rw[hd];exact h
 |outgrown=>exact h
 |exit id=>exact h.elim
 |goto l=>exact h.elim)⟩
abbrev GZ(D:Nat):List Deferred:=[⟨.collected D,#[]⟩]
def cD(c:Cx)(D:Nat):Cx:= { c with W:=Wk.CD c.P (GZ D)}
def bD(D:Nat)(B:Exit->Act->World->Prop):Exit->Act->World->Prop:=λ e a w=>B e (CM (GZ D) a) w
def KD:List Fr->Bool
 |[]=>true
 | .seq y::k=>CR y&&KD k
 | .block _::k=>KD k
 | .scope::k=>KD k
 | .loop _::_=>false
theorem TR{c:Cx}{D:Nat}{B:Exit->Act->World->Prop}(hw: ∀x Q a w,x.wp c.P Q a w->c.W.wp x Q a w): ∀(k:List Fr),KD k=true-> ∀e a w,post (cD c D) (bD D B) k e a w->post c B k e (CM (GZ D) a) w
 |[],_,e,a,w,h=>h
 | .seq y::k,hk,e,a,w,h=>by
  unfold KD at hk
  rw[Bool.and_eq_true]at hk
  have ih:=TR (D:=D) (B:=B) hw k hk.2
  cases e with
  |normal=>
   have h:CR y=true->y.wp c.P (OF (GZ D) (post (cD c D) (bD D B) k)) (CM (GZ D) a) w:=h
   refine hw _ _ _ _ (wp_mono (h hk.1) λ e a w ⟨a0,e0,q⟩=>?_)
   subst e0;exact ih _ _ _ q
  |_=>exact ih _ a w h
 | .block id::k,hk,e,a,w,h=>by
  have ih:=TR (D:=D) (B:=B) hw k hk
  cases e with
  |exit id'=>
   have h:if id'=id then post (cD c D) (bD D B) k .normal a w else post (cD c D) (bD D B) k (.exit id') a w:=h
   show if id'=id then _ else _
   split<;>rename_i hid
   ·rw[if_pos hid]at h;exact ih _ a w h
   ·rw[if_neg hid]at h;exact ih _ a w h
  |_=>exact ih _ a w h
 | .scope::k,hk,e,a,w,h=>by
  have ih:=TR (D:=D) (B:=B) hw k hk
  cases e<;>first|exact h.elim|exact ih _ a w h
 | .loop J::k,hk,_,_,_,_=>by cases hk
theorem qS{c:Cx}{B:Exit->Act->World->Prop}{k':List Fr}(dk:Nat){s:XS}(hw: ∀x Q a w,x.wp c.P Q a w->c.W.wp x Q a w)(hk:KD k'=true){D:Nat}(h:XG (cD c D) (bD D B) k' .next ⟨s.F,(dk,.ho (.raw D DJ))::s.H,s.L⟩):
  ∀a w,AF a c.N s.L.d->(∃M,St c.w0 c.M0 w M (HD s.H++(.raw D DJ::c.Hr))/\B7 M s.F/\c.M1.le M)->post c B k' .normal (CM (GZ D) a) w:=
 λ a w hs ⟨M,h1,h2,h3⟩=>TR hw k' hk _ _ _ (h a w ⟨hs,M,h1.perm (List.perm_middle.symm),h2,h3⟩)
theorem KC.CD {P:Program}{fn:Func}{R:Ending->World->Prop}{Q:Exit->Act->World->Prop}(E:KC P fn R Q){t:Tmp}(hr:fn.results= #[.tmp t])(D:Nat):
  Ends P fn (λ e w=>e≠ .outgrown/\w.heap[D]? =some DJ/\R e (w.putObj D (.deferred none))) (bD D Q):=⟨λ e a w h=>E.all e (CM (GZ D) a) w (by
 have key: ∀(v:Value),(results fn a.tmps).run P w= .ok v w->(results fn a.tmps).run P (w.putObj D (.deferred none))= .ok v (w.putObj D (.deferred none)):=by
  intro v hv
  rw[results_tmp hr]at hv ⊢
  cases hv;rfl
 cases e with
 |normal=>
  obtain⟨hd,v,hv,_,hD,hR⟩:=h
  show LeavesInM _ _ _ _ _ _ (a.defers++GZ D) _ _
  rw[hd]
  exact⟨by simp,.inl ⟨D,_,rfl,run_takeDeferred hD,v,key v hv,hR⟩⟩
 |ret=>
  obtain⟨hd,v,hv,_,hD,hR⟩:=h
  show LeavesInM _ _ _ _ _ _ (a.defers++GZ D) _ _
  rw[hd]
  exact⟨by simp,.inl ⟨D,_,rfl,run_takeDeferred hD,v,key v hv,hR⟩⟩
 |panic ch=>
  obtain⟨hd,_,hD,hR⟩:=h
  show LeavesInM _ _ _ _ _ _ (a.defers++GZ D) _ _
  rw[hd]
  exact⟨by simp,.inl ⟨D,_,rfl,run_takeDeferred hD,hR⟩⟩
 |outgrown=>exact absurd U h.1
 |exit id=>exact h.elim
 |goto l=>exact h.elim)⟩
end Go.Eng
namespace Go.Eng
open Go.RowKit
section
variable {c:Cx} {B:Exit->Act->World->Prop} {k k':List Fr} {m:Md} {s s':XS} {O:Prop} {E:List Ck} {all:Array Oper} {rest:List Oper} {d:Nat} {ty:TypeId} {ps:String} {af:Array Edge}
theorem dW{F:List (Nat×Kn)}{H:List (Nat×HX)}{w:World}{M:Mem}(hX:D4 c F H w M){post:Act->Prop}: ∀ {l:List Oper} {L:XE} {O:Prop} {E:List Ck},let t:=HJ c.T c.N F H all l L O E;t.O->A6 t.E->RS c.P all w c.N post t.l t.L.d->O/\A6 E/\RS c.P all w c.N post l L.d
 |[],L,O,E=>λ h1 h2 h3=>⟨h1,h2,h3⟩
 |⟨dst,op,ty,ps,af,gd⟩::rest,L,O,E=>by
  intro t h1 h2 h3
  have ht:t=HJ c.T c.N F H all (⟨dst,op,ty,ps,af,gd⟩::rest) L O E:=rfl
  unfold HJ at ht
  split at ht
  ·rename_i d
   split at ht
   ·rename_i W hW
    split at ht
    ·rename_i v p E' hv
     split at ht
     ·rename_i hd
      obtain⟨O',hi,hO'⟩:=TL (W:=W) (K:=λ O'=>HJ c.T c.N F H all rest ((d,W,v)::L) O' (E'++E)) (ps:=p) (O:=O)
      rw[ht,hi]at h1 h2 h3
      obtain⟨r1,r2,r3⟩:=dW hX h1 h2 h3
      obtain⟨hp,hO2⟩:=hO' r1
      exact⟨hO2,(A6.app r2).2,RS.v (JS hW) (Q4 c.hT hX.f hX.st BG hv (A6.app r2).1 hp) hd r3⟩
     ·rw[ht]at h1 h2 h3;exact⟨h1,h2,h3⟩
    ·rw[ht]at h1 h2 h3;exact⟨h1,h2,h3⟩
   ·rw[ht]at h1 h2 h3;exact⟨h1,h2,h3⟩
  ·rw[ht]at h1 h2 h3;exact⟨h1,h2,h3⟩
theorem qT(n:Nat){id:Nat}{l:List Oper}{L':XE}{O2:Prop}{E2:List Ck}(hl: ∀ops Q l a w,c.W.list ops Q l a w->wpList c.P ops Q l a w)(h:run c.T c.N k m s=⟨k',.code (.region id ⟨l⟩ true),s',O,E⟩)(hE:A6 E)(hO:O)(hm:c.P.follows .mixedOrders=true)(hB:Region.lexTailB .any l.toArray n=true)
  (hq:HJ c.T c.N s'.F s'.H l.toArray (l.take n) s'.L ((0:Int)=0) []=⟨[],L',O2,E2⟩) (hE2:A6 E2) (hO2:O2) (hn:XG c B k' (.ops l.toArray (l.drop n)) ⟨s'.F,s'.H,L'⟩) (hpl:c.W.plain:=by exact True.intro):XG c B k m s:=
 CH h hE hO λ a w ⟨h1,M,h2⟩=>c.W.draw hpl (CW.nI n h2.st hm hB (λ w1 hS=>by
  have hX:D4 c s'.F s'.H w1 M:=⟨hS,h2.f,h2.le⟩
  have:=dW (all:=l.toArray) hX (post:=λ a'=>wpList c.P l.toArray (post c B k') (l.drop n) a' w1) (l:=l.take n) (L:=s'.L) (O:=(0:Int)=0) (E:=[])
  rw[hq]at this
  exact(this hO2 hE2 (RS.nil λ a hs=>hl _ _ _ _ _ (hn a w1 ⟨hs,M,hX⟩))).2.2) a h1)
def LG{α:Type}(w0:World)(M0 M:Mem)(Rs:List HO)(T:TypeId)(r:PR α)(X:α->Int->Ending->World->Prop):Ending->World->Prop:=match r with
 | .ok x j=>X x j
 | .er ec p=>λ e w'=> ∃M',e= .panicked [L9 T ec p]/\St w0 M0 w' M' Rs/\M.le M'
theorem F7(ids:List Nat){tw:TypeId}{ec p:Int}{xf:Operand}{f:FuncId}{fa fb:List Value}{E1 E2:List Ck}{xs:List Operand}{tys:Array TypeId}{vs:List XV}{A R:List (Nat×HX)}{dd:Option Tmp}
  (h:run c.T c.N k m s=⟨k',.ops all (⟨dd,.call ⟨.value xf,⟨xs⟩,tys⟩,ty,ps,af,none⟩::rest),s',O,E⟩) (hE:A6 E) (hO:O) (hf:callee s'.L xf=some (f,fa,fb,E1)) (ct:CT c.P f) (hx:HG s'.L .t xs=some (vs,E2)) (hE1:A6 (E1++E2))
  (hA:IW ids s'.H=some (A,R)) (hc: ∀w M,St c.w0 c.M0 w M (HD A++(HD R++c.Hr))->B7 M s'.F->Calls c.P f (fa++vs.map XV.d++fb).toArray w (λ e w'=> ∃M',e= .panicked [L9 tw ec p]/\St c.w0 c.M0 w' M' (HD R++c.Hr)/\M.le M'))
  (hp: ∀a w M,AF a c.N s'.L.d->St c.w0 c.M0 w M (HD R++c.Hr)->c.M1.le M->post c B k' (.panic [L9 tw ec p]) a w):XG c B k m s:=by
 refine FL h hE hO λ w M hX=>?_
 have hSt:St c.w0 c.M0 w M (HD A++(HD R++c.Hr)):=hX.st.perm (by rw[<-List.append_assoc];exact(LA hA).append_right _)
 refine XK ct hf hE1.app.1 (KA hx hE1.app.2) (hc w M hSt hX.f) (λ v w' hr=>?_) (λ ch w' hr ac hs=>?_) (λ w' hr=>?_)
 ·obtain⟨M',he,_⟩:=hr;cases he
 ·obtain⟨M',he,hS,hle⟩:=hr
  cases he
  exact hp ac w' M' hs hS (hX.le.trans hle)
 ·obtain⟨M',he,_⟩:=hr;cases he
theorem qU{dd:Option Tmp}{x:Operand}{v:XV}{t:TypeId}{u:Value}{E1:List Ck}(h:run c.T c.N k m s=⟨k',.ops all (⟨dd,.panic x,ty,ps,af,none⟩::rest),s',O,E⟩)(hE:A6 E)(hO:O)(hx:BI s'.L .t x=some (v,E1))(hE1:A6 E1)(hv:v.d= .iface t u)
  (hp: ∀a w M,AF a c.N s'.L.d->D4 c s'.F s'.H w M->post c B k' (.panic [{ v:=.iface t u,recovered:=false}]) a w):XG c B k m s:=
 FL h hE hO λ w M hX=>RL.panic (by have:=AT hx hE1;rw[hv]at this;exact this) λ a hs=>hp a w M hs hX
theorem E5{ch:List PanicEntry}: ∀(k:List Fr) {a:Act} {w:World},B (.panic ch) a w->post c B k (.panic ch) a w
 |[],_,_,h=>h
 | .seq y::k,_,_,h=>E5 k h
 | .block id::k,_,_,h=>E5 k h
 | .scope::k,_,_,h=>E5 k h
 | .loop J::k,_,_,h=>E5 k h
def XO:List Fr->Bool
 |[]=>true
 | .loop _::_=>false
 |_::k=>XO k
theorem TS{X:List HO}: ∀(k:List Fr),XO k=true->post { c with Hr:=X} B k=post c B k
 |[],_=>rfl
 | .seq y::k,h=>by
  have ih:=TS (X:=X) k h
  show Exit.then (c.W.wp y (post { c with Hr:=X} B k)) (post { c with Hr:=X} B k)=_
  rw[ih];rfl
 | .block id::k,h=>by
  have ih:=TS (X:=X) k h
  show Exit.inBlock id (post { c with Hr:=X} B k)=_
  rw[ih];rfl
 | .scope::k,h=>by
  have ih:=TS (X:=X) k h
  show Exit.noGoto (post { c with Hr:=X} B k)=_
  rw[ih];rfl
 | .loop J::k,h=>by cases h
theorem TU(ids:List Nat){A R:List (Nat×HX)}(hA:IW ids s.H=some (A,R))(hk:XO k=true)(h:XG { c with Hr:=HD A++c.Hr} B k m ⟨s.F,R,s.L⟩):XG c B k m s:=by
 intro a w hs
 obtain⟨h1,M,h2⟩:=hs
 have hSt:St c.w0 c.M0 w M (HD R++(HD A++c.Hr)):=h2.st.perm (by
  rw[<-List.append_assoc]
  exact(List.perm_append_comm.trans (LA hA)).append_right _)
 have:=h a w ⟨h1,M,hSt,h2.f,h2.le⟩
 rw[TS k hk]at this
 exact this
end
end Go.Eng
namespace Go.Eng
open Go.RowKit
def DP(b:UInt8):Bool:=C7 (b.toNat:Int)
def AJ(s:A1)(i:Int):Int:=i+len ((A3 s i).takeWhile DP)
def AZ(s:A1):A1:=s.dropWhile (([48]:A1).contains ·)
def CY(s:A1):A1:=Lib.trimRightS s [48]
def D9(s:A1):Int:=s.foldl (λ n b=>n*10+((b.toNat:Int)-48)) 0
theorem MO(s:A1)(i:Int)(h0:0<=i)(h1:i<len s): ∃b,A3 s i=b::A3 s (i+1)/\A2 s i=(b.toNat:Int):=by
 have h:i.toNat<s.length:=by unfold len at h1;omega
 refine⟨s[i.toNat],?_,by simp[A2,h]⟩
 unfold A3
 rw[show(i+1).toNat=i.toNat+1 from by omega]
 exact List.drop_eq_getElem_cons h
theorem XR(s:A1)(i:Int)(h1:len s<=i):A3 s i=[]:=by
 unfold A3;rw[List.drop_eq_nil_iff];unfold len at h1;omega
theorem CN(s:A1)(i:Int)(h0:0<=i)(h1:i<=len s):len (A3 s i)=len s-i:=by
 unfold A3 len at*;rw[List.length_drop];omega
theorem dX{s:A1}{i:Int}(h0:0<=i)(h1:i<len s)(h:C7 (A2 s i)=true):AJ s (i+1)=AJ s i:=by
 obtain⟨b,h2,h3⟩:=MO s i h0 h1
 unfold AJ
 rw[h2,List.takeWhile_cons,show DP b=true from by unfold DP;rw[<-h3];exact h]
 simp[len];omega
theorem dY{s:A1}{i:Int}(h0:0<=i)(h1:i<len s)(h:C7 (A2 s i)=false):AJ s i=i:=by
 obtain⟨b,h2,h3⟩:=MO s i h0 h1
 unfold AJ
 rw[h2,List.takeWhile_cons,show DP b=false from by unfold DP;rw[<-h3];exact h]
 simp[len]
theorem dZ{s:A1}{i:Int}(h1:len s<=i):AJ s i=i:=by
 unfold AJ;rw[XR s i h1];simp[len]
theorem IY(s:A1)(i:Int)(h0:0<=i)(h1:i<=len s):i<=AJ s i/\AJ s i<=len s:=by
 have h2:=CN s i h0 h1
 have h3:=(List.takeWhile_sublist DP (l:=A3 s i)).length_le
 unfold AJ len at*;omega
theorem e8{s:A1}{i k:Int}(h0:0<=i)(h1:i<=k)(h2:k<AJ s i):C7 (A2 s k)=true:=by
 by_cases hl:i<len s
 ·by_cases hf:C7 (A2 s i)=true
  ·by_cases hk:i=k
   ·subst hk;exact hf
   ·rw[<-dX h0 hl hf]at h2
    exact e8 (i:=i+1) (by omega) (by omega) h2
  ·rw[Bool.not_eq_true]at hf
   rw[dY h0 hl hf]at h2;omega
 ·rw[dZ (by omega)]at h2;omega
termination_by (len s-i).toNat
def EG(neg:Bool)(s:A1)(e:Int):Nd×Int:=
 if HE s then
  if AZ s==[]then(⟨3,0,[],[],false,0⟩,0)
  else if decide (e< -100000000)||decide (100000000<e)then(AY,2)
  else
   if decide (100<len (CY (AZ s)))||decide (e+(len (AZ s)-len (CY (AZ s)))< -1000)||decide (1000<len (CY (AZ s))+(e+(len (AZ s)-len (CY (AZ s)))))then(AY,2)
   else(⟨3,0,[],CY (AZ s),neg,e+(len (AZ s)-len (CY (AZ s)))⟩,0)
 else(AY,4)
theorem AG{α:Type}(a b:List α):len (a++b)=len a+len b:=by unfold len;simp
theorem AK{α:Type}(a:α)(b:List α):len (a::b)=len b+1:=by unfold len;simp
theorem LH{α:Type}(a:α)(b:List α):A3 (a::b) 1=b:=rfl
theorem len_nil{α:Type}:len ([]:List α)=0:=rfl
theorem QK{α:Type}(s:List α)(i j:Int):0<=len (Eng.sub s i j)/\len (Eng.sub s i j)<=len s:=by unfold Eng.sub len;simp;omega
theorem FX{α:Type}{s:List α}{i j:Int}(h0:0<=i)(h1:i<=j)(h2:j<=len s):len (Eng.sub s i j)=j-i:=by unfold Eng.sub len at*;simp;omega
theorem MP{α:Type}(s:List α)(i:Int):0<=len (A3 s i)/\len (A3 s i)<=len s:=by unfold A3 len;simp
theorem e9(s:A1):len (AZ s)<=len s:=by
 have:=(List.dropWhile_sublist (([48]:A1).contains ·) (l:=s)).length_le
 unfold AZ len;omega
theorem qV(s:A1):len (CY s)<=len s:=by
 have:=(List.dropWhile_sublist (([48]:A1).contains ·) (l:=s.reverse)).length_le
 unfold CY Lib.trimRightS len;simp at*;omega
theorem dropWhile_nil{α:Type}{p:α->Bool}: ∀ {l:List α},l.dropWhile p=[]-> ∀x∈l,p x=true
 |[],_,x,hx=>by cases hx
 |a::l,h,x,hx=>by
  rw[List.dropWhile_cons]at h
  split at h
  ·rename_i ha
   rcases List.mem_cons.1 hx with rfl|hx
   ·exact ha
   ·exact dropWhile_nil h x hx
  ·cases h
theorem XT{s:A1}{b:UInt8}{l:A1}(h:AZ s=b::l):(([48]:A1).contains b)=false:=by
 unfold AZ at h
 induction s with
 |nil=>cases h
 |cons a s ih=>
  rw[List.dropWhile_cons]at h
  split at h
  ·exact ih h
  ·rename_i hn;cases h;simpa using hn
theorem eA(s:A1): ¬AZ s=[]->0<len (CY (AZ s)):=by
 intro h
 cases hd:AZ s with
 |nil=>exact absurd hd h
 |cons b l=>
  have hb:=XT hd
  have:CY (b::l)≠[]:=by
   unfold CY Lib.trimRightS
   intro hr
   rw[List.reverse_eq_nil_iff]at hr
   have:=dropWhile_nil hr b (by simp)
   rw[this]at hb;cases hb
  unfold len
  have:=List.length_pos_iff.2 this
  omega
theorem eB(u:Nat):(Lib.decDigits u).length<=u+1:=by
 induction u using Nat.strongRecOn with
 |_ u ih=>
  rw[Lib.decDigits]
  split
  ·simp
  ·have:=ih (u/10) (by omega)
   simp only[List.length_append,List.length_cons,List.length_nil];omega
theorem eC(n:Int):0<=len (Lib.itoa n)/\len (Lib.itoa n)<=n.natAbs+2:=by
 unfold Lib.itoa len
 have h1:=eB n.natAbs
 have h2:=eB n.toNat
 split
 ·simp only[List.length_cons];omega
 ·omega
def BV(s signs:A1)(p:Int):Bool:=decide (p<len s)&&decide (0<=Lib.indexByte signs (A2 s p).toNat.toUInt8)
def B4(s signs:A1)(p:Int):Int:=if BV s signs p then p+1 else p
theorem qW{s signs:A1}{p:Int}(h:BV s signs p=true):p<len s:=by unfold BV at h;simp only[Bool.and_eq_true,decide_eq_true_eq]at h;exact h.1
theorem LI(s signs:A1)(p:Int)(h:p<=len s):p<=B4 s signs p/\B4 s signs p<=len s:=by
 unfold B4;split
 ·rename_i h1;have:=qW h1;omega
 ·omega
theorem QL{s signs:A1}{p:Int}(h:BV s signs p=true):B4 s signs p=p+1:=by unfold B4;rw[if_pos h]
theorem MQ{s signs:A1}{p:Int}(h:BV s signs p=false):B4 s signs p=p:=by unfold B4;rw[if_neg (by rw[h];simp)]
def IZ(neg:Bool)(fg:A1)(x:Int)(pw:A1)(side:Int):Nd×Int×Int:=
 if 6<len (AZ pw)then(AY,0,2)
 else((EG neg fg (x+side*D9 (AZ pw))).1,0,(EG neg fg (x+side*D9 (AZ pw))).2)
def MR(s:A1)(neg:Bool)(fg:A1)(x:Int)(c0:Int):Nd×Int×Int:=
 let m:=BV s [45] c0
 let c1:=if m then B4 s [45] c0 else B4 s [43] (B4 s [45] c0)
 let c2:=AJ s c1
 let pw:=Eng.sub s c1 c2
 if pw=[]\/c2<len s then(AY,c2,1)else IZ neg fg x pw (if m then-1 else 1)
def GH(s:A1)(neg:Bool)(fg:A1)(x:Int)(b:Int):Nd×Int×Int:=
 if BV s [101,69] b then MR s neg fg x (B4 s [101,69] b)
 else if B4 s [101,69] b<len s then(AY,B4 s [101,69] b,1)else IZ neg fg x [] 1
def BY(s:A1):Nd×Int×Int:=
 let neg:=BV s [45] 0
 let a0:=B4 s [45] 0
 let b0:=AJ s a0
 let fg:=Eng.sub s a0 b0
 if 1<len fg/\A2 fg 0=48 then(AY,a0+1,1)
 else if fg=[]then(AY,b0,1)
 else if BV s [46] b0 then
  let b2:=AJ s (B4 s [46] b0)
  let part:=Eng.sub s (B4 s [46] b0) b2
  if part=[]then(AY,b2,1)else GH s neg (fg++part) (-(len part)) b2
 else GH s neg fg 0 (B4 s [46] b0)
theorem qX{s:A1}{i:Int}(h0:0<=i):Eng.sub s i (AJ s i)=(A3 s i).takeWhile DP:=by
 have h1:(AJ s i).toNat-i.toNat=((A3 s i).takeWhile DP).length:=by unfold AJ len;omega
 unfold Eng.sub;rw[h1]
 exact(List.prefix_iff_eq_take.1 (List.takeWhile_prefix DP)).symm
theorem eD{α:Type}{p:α->Bool}: ∀ {l:List α},∀x∈l.takeWhile p,p x=true
 |[],x,hx=>by cases hx
 |a::l,x,hx=>by
  rw[List.takeWhile_cons]at hx
  split at hx
  ·rename_i ha
   rcases List.mem_cons.1 hx with rfl|hx
   ·exact ha
   ·exact eD x hx
  ·cases hx
theorem QM{s:A1}{i:Int}(h0:0<=i): ∀b∈Eng.sub s i (AJ s i),DP b=true:=by rw[qX h0];exact eD
theorem eE{l:A1}(h: ∀b∈l,DP b=true): ∀b∈AZ l,DP b=true:=λ b hb=>h b ((List.dropWhile_sublist _).subset hb)
theorem XU: ∀(l:A1) (n:Int),(∀b∈l,DP b=true)->0<=n->0<=l.foldl (λ n b=>n*10+((b.toNat:Int)-48)) n/\l.foldl (λ n b=>n*10+((b.toNat:Int)-48)) n<(n+1)*10^l.length
 |[],n,_,h0=>by simp;omega
 |a::l,n,h,h0=>by
  have ha:=h a (by simp)
  unfold DP C7 at ha
  simp only[Bool.and_eq_true,decide_eq_true_eq]at ha
  have:=XU l (n*10+((a.toNat:Int)-48)) (λ b hb=>h b (by simp[hb])) (by omega)
  rw[List.foldl_cons]
  refine⟨this.1,Int.lt_of_lt_of_le this.2 ?_⟩
  have h1:(n+1)*10^ (a::l).length=((n+1)*10)*10^l.length:=by rw[List.length_cons,Int.pow_succ,Int.mul_comm (10^l.length) 10,<-Int.mul_assoc]
  rw[h1]
  exact Int.mul_le_mul_of_nonneg_right (by omega) (Int.le_of_lt (Int.pow_pos (by decide:(0:Int)<10)))
theorem XW: ∀(l:A1) (n:Nat),(∀b∈l,DP b=true)->(n+1)*10^l.length<=10000000->Lib.parseUint10 n l= .ok (l.foldl (λ n b=>n*10+((b.toNat:Int)-48)) (n:Int)).toNat
 |[],n,_,_=>by simp[Lib.parseUint10]
 |a::l,n,h,hl=>by
  have ha:=h a (by simp)
  unfold DP C7 at ha
  simp only[Bool.and_eq_true,decide_eq_true_eq]at ha
  have hn:n<10000000:=by
   have:(n+1)*1<=(n+1)*10^ (a::l).length:=Nat.mul_le_mul_left _ (Nat.pow_pos (by decide))
   omega
  have ih:=XW l (n*10+(a.toNat-48)) (λ b hb=>h b (by simp[hb])) (by
   have h1:(n+1)*10^ (a::l).length=((n+1)*10)*10^l.length:=by rw[List.length_cons,Nat.pow_succ,Nat.mul_comm (10^l.length) 10,<-Nat.mul_assoc]
   rw[h1]at hl
   exact Nat.le_trans (Nat.mul_le_mul_right _ (by omega)) hl)
  rw[Lib.parseUint10,if_pos (by omega),if_neg (by omega),if_neg (by omega),ih,List.foldl_cons]
  congr 3
  omega
theorem qY{l:A1}(h: ∀b∈l,DP b=true)(hl:len l<=6):Lib.atoiAll ([48]++l)= .ok (D9 l)/\0<=D9 l/\D9 l<1000000:=by
 have h1:=XU l 0 h (by omega)
 have h2:(10:Int)^l.length<=10^6:=by
  have:(10:Nat)^l.length<=10^6:=Nat.pow_le_pow_right (by omega) (by unfold len at hl;omega)
  exact_mod_cast this
 have h3:=XW l 0 h (by
  have:(10:Nat)^l.length<=10^6:=Nat.pow_le_pow_right (by omega) (by unfold len at hl;omega)
  omega)
 have h4:0<=D9 l/\D9 l<1000000:=by unfold D9;omega
 refine⟨?_,h4⟩
 show Lib.atoiAll (48::l)=_
 have hm:Lib.parseMag (48::l)= .ok (D9 l).toNat:=by
  unfold Lib.parseMag
  rw[if_neg (by simp),Lib.parseUint10,if_pos (by decide),if_neg (by decide),if_neg (by decide)]
  exact h3
 unfold Lib.atoiAll
 dsimp only
 rw[if_neg (by decide: ¬((48:UInt8).toNat=43\/(48:UInt8).toNat=45)),hm]
 dsimp only
 rw[if_neg (by omega),if_neg (by intro hh;exact absurd hh.1 (by decide)),if_neg (by decide)]
 congr 1;omega
end Go.Eng
