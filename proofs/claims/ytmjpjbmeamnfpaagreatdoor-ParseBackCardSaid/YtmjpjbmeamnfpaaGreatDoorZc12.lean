/-
  Parts Xu Xv Xz Ka Kg, put together and made short by wip/py/merge.py (mini.py).
-/
import Derived.Test.YtmjpjbmeamnfpaaGreatDoorZc11
import Derived.RangeFuncIn
import Derived.RangeFuncLeaves
import Derived.RangeFuncSeq
import Derived.RangeFuncRecord
import Derived.Test.YtmjpjbmeamnfpaaGreatDoorZc10
import Derived.Test.YtmjpjbmeamnfpaaGreatDoorZc7
import Derived.Test.YtmjpjbmeamnfpaaGreatDoorZc9
import Derived.Test.YtmjpjbmeamnfpaaGreatDoorZc8
import Derived.Test.YtmjpjbmeamnfpaaGreatDoorProg
import Derived.Shelf.Spec.SlicesGrow
import Derived.Test.YtmjpjbmeamnfpaaGreatDoorZc0
set_option linter.unusedVariables false
set_option linter.unusedSimpArgs false
namespace Go.Eng
open Go.RowKit
section
variable {w0 w:World} {M0 M:Mem} {Hs:List HO} {o:Obj} {b:Nat}
theorem St.ZI (h:St w0 M0 w M Hs){k:Nat}(hk:Hs[k]? =some (.raw b o))(o':Obj):St w0 M0 (w.putObj b o') M (Hs.set k (.raw b o')):=by
 obtain⟨h1,h2,h3⟩:=h.obj hk
 have hlt:b<w.heap.size:=by
  rcases Nat.lt_or_ge b w.heap.size with h'|h'
  ·exact h'
  ·simp[h']at h2
 refine h.write hk ⟨rfl,rfl,rfl,by rw[World.putObj_size];exact Nat.le_refl _,λ k hk=>World.putObj_heap_other (by omega)⟩ ⟨λ b' o2 v hv=>?_⟩ (λ _ _ _=>rfl) (λ b' _ hne=>World.putObj_heap_other (λ e=>hne (by rw[e];rfl))) (λ _ _ _ _=>rfl) ⟨h1,World.putObj_heap_same hlt,h3⟩ (λ _ hb=>.inl hb)
 have hne:b'≠b:=λ e=>by subst e;rw[h3]at hv;cases hv
 have:=h.sat.cell b' o2 v hv
 simp only[World.cell?,World.putObj_heap_other hne]at this ⊢;exact this
end
abbrev hY(P:Program)(l:Nat)(vs:Array Value)(w:World)(R:Ending->World->Prop):Prop:=YieldAt Fence.wide 0 P l vs w R
def ZJ(P:Program)(gf:FuncId)(lb:List Value)(n:Nat)(w0:World)(M0:Mem)(Rs:List HO){τ:Type}(av:Nat->τ->List XV)(pa:Nat->τ->Prop)(FA:Nat->τ->List (Nat×Kn))(w:World)(M:Mem):Prop:=
 ∀(σ:Type) (I:Nat->σ->Prop) (Hy:σ->List HO) (Fy:σ->List (Nat×Kn)) (l:Nat) (g0:σ),(∃x1 x2:σ->HO,∀g,Hy g=[x1 g,x2 g])->St w0 M0 w M (Hy g0++Rs)->BJ M (Fy g0)->I 0 g0->
  (∀k g y w' M',k<n->I k g->pa k y->St w0 M0 w' M' (Hy g++Rs)->M.le M'->BJ M' (FA k y)->BJ M' (Fy g)->
   hY P l ((av k y).map XV.d).toArray w' (DQ w0 M0 M' Rs (λ _:σ=>.bool true) (I (k+1)) Fy Hy))->
  Calls P gf (.func (.yield l) #[] #[]::lb).toArray w (DQ w0 M0 M Rs (λ _:σ=>.tuple #[]) (I n) Fy Hy)
def pz:List Tmp->List XV->XE->XE
 |t::ts,v::vs,L=>pz ts vs ((t,.t,v)::L)
 |_,_,L=>L
def QE(N:Nat):List Tmp->List XV->Bool
 |[],[]=>true
 |t::ts,_::vs=>Nat.blt t N&&QE N ts vs
 |_,_=>false
theorem hZ{N:Nat}: ∀(ps:List Tmp) (vs:List XV) {L:XE} {a:Act},QE N ps vs=true->AK a N L.d->
  AK { tmps:=(ps.zip (vs.map XV.d)).foldl (λ t (x:Tmp×Value)=>t.setIfInBounds x.1 x.2) a.tmps,defers:=[]} N (pz ps vs L).d
 |[],[],L,a,_,hs=>⟨hs.size,rfl,hs.val⟩
 |t::ts,v::vs,L,a,h,hs=>by
  unfold QE at h
  rw[Bool.and_eq_true]at h
  exact hZ ts vs (a:=a.put (some t) v.d) h.2 (SK hs h.1 v)
 |[],_::_,_,_,h,_=>by cases h
 |_::_,[],_,_,h,_=>by cases h
abbrev FN:Obj:=.deferred (some [])
def cR(c:Cx)(l D:Nat)(r:Obj)(M:Mem):Cx:= { c with M1:=M,Hr:=.raw l r:: .raw D FN::c.Hr,W:=Wk.round c.P l 0}
theorem i6{c:Cx}{l D:Nat}{r r':Obj}{M:Mem}{s:XS}{a:Act}{w:World}(h:JR (cR c l D r M) s a w):w.heap[l]? =some r/\JR (cR c l D r' M) s a (w.putObj l r'):=by
 obtain⟨h1,M',h2,h3,h4⟩:=h
 have h2:St c.w0 c.M0 w M' (HD s.H++(.raw l r:: .raw D FN::c.Hr)):=h2
 have hi:(HD s.H++(.raw l r:: .raw D FN::c.Hr))[(HD s.H).length]? =some (.raw l r):=by simp
 refine⟨(h2.obj hi).2.1,h1,M',?_,h3,h4⟩
 have:=h2.ZI hi r'
 have e:(HD s.H++(.raw l r:: .raw D FN::c.Hr)).set (HD s.H).length (.raw l r')=HD s.H++(.raw l r':: .raw D FN::c.Hr):=by simp
 rw[e]at this;exact this
abbrev nB:Exit->Act->World->Prop:=λ _ _ _=>False
theorem i7: ¬LetsOut nB:=λ⟨_,_,h⟩=>h
theorem iA{N:Nat}: ∀ {ps:List Tmp} {vs:List XV},QE N ps vs=true->vs.length=ps.length
 |[],[],_=>rfl
 |t::ts,v::vs,h=>by
  unfold QE at h
  rw[Bool.and_eq_true]at h
  simp[iA h.2]
 |[],_::_,h=>by cases h
 |_::_,[],h=>by cases h
theorem DX.sub {c:Cx}{s s':XS}{w:World}{M:Mem}(h:DX c s.F s.H w M)(hs:s'.sub s):DX c s'.F s'.H w M:=by
 obtain⟨_,k2,R,k3⟩:=hs
 refine⟨?_,k2 M h.f,h.le⟩
 have hp:((HD s'.H++c.Hr)++R).Perm (HD s.H++c.Hr):=by
  refine List.Perm.trans ?_ (k3.append_right c.Hr)
  rw[List.append_assoc,List.append_assoc]
  exact(List.perm_append_comm).append_left _
 exact(h.st.perm hp).drop _ (List.sublist_append_left _ _)
theorem uP{A B:List HO}{x y:HO}:(A++(x::y::B)).Perm (x::y::(A++B)):=
 List.perm_middle.trans ((List.perm_middle).cons x)
theorem iB{c:Cx}{B:Exit->Act->World->Prop}{k k':List Fr}{m:Md}{s s':XS}{O:Prop}{E:List Ck}{σ τ:Type}(Sf:σ->XS)(I:Nat->σ->Prop)(g0:σ){gop:Operand}{ps:List Tmp}{assign body:Code}{gf:FuncId}{lb:List Value}{n:Nat}{av:Nat->τ->List XV}{pa:Nat->τ->Prop}{FA:Nat->τ->List (Nat×Kn)}{E1:List Ck}(Sa:Nat->σ->τ->XS)
  (hw: ∀x Q a w,x.wp c.P Q a w->c.W.wp x Q a w) (h:run c.T c.N k m s=⟨k',.code (.rangeFunc gop ⟨ps⟩ assign body),s',O,E⟩) (hE:AG E) (hO:O)
  (hg:C9 s'.L .t gop=some (.v (.func (.func gf) #[] ⟨lb⟩),E1)) (hE1:AG E1) (ct:CT c.P gf)
  (h0:(⟨MV (Sf g0).F s'.F,MW (Sf g0).H s'.H,HR (keys (Sf g0).L) s'.L⟩:XS)=Sf g0) (hI:I 0 g0) (hL: ∀g,(Sf g).L=(Sf g0).L)
  (hH: ∃x1 x2:σ->HO,∀g,HD (Sf g).H=[x1 g,x2 g]) (hit: ∀w M l D r w',DX c s'.F s'.H w M->ZJ c.P gf lb n c.w0 c.M0 (.raw l r:: .raw D FN::c.Hr) av pa FA w' M)
  (hps: ∀k y,QE c.N ps (av k y)=true)
  (ha: ∀k g y l D r M,k<n->I k g->pa k y->XG (cR c l D r M) nB [.loop (λ t=>t=Sa k g y)] (.code assign) ⟨FA k y++(Sf g).F,(Sf g).H,pz ps (av k y) (Sf g).L⟩) (hsa:DH assign=true)
  (hb: ∀k g y l D r M,k<n->I k g->pa k y->XG (cR c l D r M) nB [.loop (λ t=> ∃g',t=Sf g'/\I (k+1) g')] (.code body) (Sa k g y)) (hsb:DH body=true)
  (hn: ∀D g a w,I n g->AK a c.N (Sf g).L.d->(∃M,St c.w0 c.M0 w M (HD (Sf g).H++(.raw D FN::c.Hr))/\BJ M (Sf g).F/\c.M1.le M)->post c B k' .normal (EO [⟨.collected D,#[]⟩] a) w):XG c B k m s:=by
 refine CI h hE hO λ a w hs=>?_
 obtain⟨hsl,M,hX⟩:=hs
 have hX0:=hX.sub (XS.SE h0)
 have hslL:=gU hsl (XS.SE h0).1
 refine hw _ _ _ _ ((wpIn_wide (n:=1)).1 (wpIn_rangeFunc λ fn _=>?_))
 obtain⟨rec,hrec⟩: ∃rec:LoopState->Loop,rec=λ st=> { state:=st,pending:=none,fn,tmps:=a.tmps,params:=⟨ps⟩,assign,body,defers:=w.heap.size}:=⟨_,rfl⟩
 have hS1:=(hX0.st.PF FN).PF (.loop (rec .ready))
 rw[World.size_alloc]at hS1
 have hS2:=hS1.perm uP
 have hgv:a.eval gop= .func (.func gf) #[] ⟨lb⟩:=AT hg hE1 a c.N hsl U
 refine⟨w.heap.size+1,[⟨.collected w.heap.size,#[]⟩],(w.alloc FN).alloc (.loop (rec .ready)),⟨.fn (.func gf) ⟨lb⟩,#[.func (.yield (w.heap.size+1)) #[] #[]]⟩,(w.alloc FN).alloc (.loop (rec .ready)),gf,
  (.func (.yield (w.heap.size+1)) #[] #[]::lb).toArray,(w.alloc FN).alloc (.loop (rec .ready)),by rw[hrec];exact run_enterLoop_outer _ _ _ _ _,?_,λ _ _=>trivial,?_,(λ h=>by cases h),callsIn_wide.2 ?_⟩
 ·simp only[resolve,hgv]
  simp[go_sem]
 ·simp[invoke,go_sem,ct]
 ·refine(hit w M _ _ _ _ hX σ I (λ g=>HD (Sf g).H) (λ g=>(Sf g).F) (w.heap.size+1) g0 hH hS2 hX0.f hI λ kk g y w' M' hk hIg hp hS hle hFA hF=>?_).mono ?_
  ·have hi:(HD (Sf g).H++(HO.raw (w.heap.size+1) (.loop (rec .ready)):: .raw w.heap.size FN::c.Hr))[(HD (Sf g).H).length]? =some (.raw (w.heap.size+1) (.loop (rec .ready))):=by simp
   have hl:=(hS.obj hi).2.1
   have hz:=hZ ps (av kk y) (L:=(Sf g).L) (a:=a) (hps kk y) (by rw[hL];exact hslL)
   have hy:=run_yield (P:=c.P) (args:=((av kk y).map XV.d).toArray) hl (by rw[hrec];simp[iA (hps kk y)])
   refine⟨_,_,_,_,hy,roundIn_of_wpIn trivial ?_⟩
   have h1:=ha kk g y (w.heap.size+1) w.heap.size (.loop (rec .ready)) M' hk hIg hp _ w' ⟨hz,M',hS,hFA.app hF,Mem.le.refl _⟩
   have h2:=h1 (VG i7) hsa
   rw[hrec]
   dsimp only
   have e0:(⟨ps⟩:Array Tmp)=ps.toArray:=rfl
   refine wpIn_mono (F:=FR (some (w.heap.size+1))) (by simpa using h2) λ e a1 w1 q=>?_
   cases e with
   |normal=>
    obtain⟨sa,rfl,hsat⟩:=q
    obtain⟨hl1,hsat1⟩:=i6 (r':=.loop { rec .ready with state:=.busy}) hsat
    refine⟨_,run_beginRound hl1 (by rw[hrec]),?_⟩
    have h4:=hb kk g y (w.heap.size+1) w.heap.size (.loop { rec .ready with state:=.busy}) M' hk hIg hp a1 _ hsat1 (VG i7) hsb
    refine wpIn_mono (F:=FR (some (w.heap.size+1))) h4 λ e a3 w3 q=>?_
    cases e with
    |normal=>
     obtain⟨sb,⟨g',rfl,hI'⟩,hsat3⟩:=q
     obtain⟨hl3,hsat4⟩:=i6 (r':=.loop (rec .ready)) hsat3
     have hr:=run_endRound (P:=c.P) none hl3
     refine⟨_,_,hr,?_⟩
     obtain⟨_,M3,hS6,hF6,hle6⟩:=hsat4
     refine⟨g',M3,rfl,hI',hle6,?_,hF6⟩
     have e1:Obj.loop { { rec .ready with state:=.busy}with state:=if(none:Option Code).isNone=true then LoopState.ready else LoopState.done,pending:=none}= .loop (rec .ready):=by rw[hrec];rfl
     rw[e1];subst hrec;exact hS6
    |_=>exact q.elim
   |_=>exact q.elim
  ·rintro e W2 ⟨g,M',rfl,hIn,hle,hS3,hF3⟩
   have hi:(HD (Sf g).H++(HO.raw (w.heap.size+1) (.loop (rec .ready)):: .raw w.heap.size FN::c.Hr))[(HD (Sf g).H).length]? =some (.raw (w.heap.size+1) (.loop (rec .ready))):=by simp
   have hl:=(hS3.obj hi).2.1
   have hS4:=hS3.ZI hi (.loop { rec .ready with state:=.exhausted})
   have hend:=run_endLoop (P:=c.P) hl (by rw[hrec];simp)
   have hend2:(Instr.endLoop (w.heap.size+1)).run c.P W2= .ok none (W2.putObj (w.heap.size+1) (.loop { rec .ready with state:=.exhausted})):=by rw[hend];rw[hrec]
   refine⟨none,_,hend2,?_⟩
   have hd:a.defers=[]:=hsl.CZ
   have hS5:=hS4.drop (HD (Sf g).H++(.raw w.heap.size FN::c.Hr)) (by
    rw[List.set_append_right _ _ (Nat.le_refl _),Nat.sub_self]
    exact List.Sublist.append (List.Sublist.refl _) (List.sublist_cons_self _ _))
   have:=hn w.heap.size g a _ hIn (by rw[hL];exact hslL) ⟨M',hS5,hF3,hX.le.trans hle⟩
   rw[show EO [⟨.collected w.heap.size,#[]⟩] a= { a with defers:=[⟨.collected w.heap.size,#[]⟩]++a.defers} by unfold EO;rw[hd];rfl]at this
   exact this
end Go.Eng
namespace Go.Eng
open Go.RowKit
structure QF (P:Program) (fn:Func) (R:Ending->World->Prop) (Q:Exit->Act->World->Prop):Prop where
 all: ∀e a w,bodyPostM Fence.wide 1 P fn R e a w->Q e a w
theorem iC{P:Program}{N:Nat}{w0 w:World}{M0 M:Mem}{Hr:List HO}{T:TT}(hT:EN P T){f:FuncId}{fn:Func}{x:Code}{R:Ending->World->Prop}(hf:P.funcs[f]? =some fn)(hb:fn.body=some x)(hn:fn.ntmps=N)
  (F:List (Nat×Kn)) (H:List (Nat×HX)) (vs:List XV) (hl:Nat.ble vs.length N=true) (hS:St w0 M0 w M (HD H++Hr)) (hF:BJ M F)
  (h: ∀B,QF P fn R B->XG ⟨P,N,w0,M0,M,Hr,T,hT,.wide P⟩ B [] (.code x) ⟨F,H,MU 0 vs⟩) {av:List Value} (ha:vs.map XV.d=av):Calls P f av.toArray w R:=by
 subst ha
 refine(callsIn_wide (n:=1)).1 (callsIn_of_wp_marks hf hb trivial (wpIn_wide.2 ?_) U)
 rw[hn]
 have hs:=AK.enter (vs.map XV.d) N (by rw[List.length_map];exact Nat.le_of_ble_eq_true hl)
 exact h _ ⟨λ _ _ _ h=>h⟩ _ w ⟨by rw[<-Q7]at hs;exact hs,M,hS,hF,Mem.le.refl _⟩
theorem QF.ends {P:Program}{fn:Func}{R:Ending->World->Prop}{Q:Exit->Act->World->Prop}(E:QF P fn R Q):Ends P fn R Q:=⟨λ e a w h=>E.all e a w (by
 cases e with
 |normal=>obtain⟨hd,h⟩:=h;show LeavesInM _ _ _ _ _ _ a.defers _ _;rw[hd];exact h
 |ret=>obtain⟨hd,h⟩:=h;show LeavesInM _ _ _ _ _ _ a.defers _ _;rw[hd];exact h
 |panic ch=>obtain⟨hd,h⟩:=h;show LeavesInM _ _ _ _ _ _ a.defers _ _;rw[hd];exact h
 |outgrown=>exact h
 |exit id=>exact h.elim
 |goto l=>exact h.elim)⟩
abbrev LQ(D:Nat):List Deferred:=[⟨.collected D,#[]⟩]
def cD(c:Cx)(D:Nat):Cx:= { c with W:=Wk.CZ c.P (LQ D)}
def bD(D:Nat)(B:Exit->Act->World->Prop):Exit->Act->World->Prop:=λ e a w=>B e (EO (LQ D) a) w
def MZ:List Fr->Bool
 |[]=>true
 | .seq y::k=>DH y&&MZ k
 | .block _::k=>MZ k
 | .scope::k=>MZ k
 | .loop _::_=>false
theorem VI{c:Cx}{D:Nat}{B:Exit->Act->World->Prop}(hw: ∀x Q a w,x.wp c.P Q a w->c.W.wp x Q a w): ∀(k:List Fr),MZ k=true-> ∀e a w,post (cD c D) (bD D B) k e a w->post c B k e (EO (LQ D) a) w
 |[],_,e,a,w,h=>h
 | .seq y::k,hk,e,a,w,h=>by
  unfold MZ at hk
  rw[Bool.and_eq_true]at hk
  have ih:=VI (D:=D) (B:=B) hw k hk.2
  cases e with
  |normal=>
   have h:DH y=true->y.wp c.P (SQ (LQ D) (post (cD c D) (bD D B) k)) (EO (LQ D) a) w:=h
   refine hw _ _ _ _ (wp_mono (h hk.1) λ e a w ⟨a0,e0,q⟩=>?_)
   subst e0;exact ih _ _ _ q
  |_=>exact ih _ a w h
 | .block id::k,hk,e,a,w,h=>by
  have ih:=VI (D:=D) (B:=B) hw k hk
  cases e with
  |exit id'=>
   have h:if id'=id then post (cD c D) (bD D B) k .normal a w else post (cD c D) (bD D B) k (.exit id') a w:=h
   show if id'=id then _ else _
   split<;>rename_i hid
   ·rw[if_pos hid]at h;exact ih _ a w h
   ·rw[if_neg hid]at h;exact ih _ a w h
  |_=>exact ih _ a w h
 | .scope::k,hk,e,a,w,h=>by
  have ih:=VI (D:=D) (B:=B) hw k hk
  cases e<;>first|exact h.elim|exact ih _ a w h
 | .loop J::k,hk,_,_,_,_=>by cases hk
theorem iD{c:Cx}{B:Exit->Act->World->Prop}{k':List Fr}(dk:Nat){s:XS}(hw: ∀x Q a w,x.wp c.P Q a w->c.W.wp x Q a w)(hk:MZ k'=true){D:Nat}(h:XG (cD c D) (bD D B) k' .next ⟨s.F,(dk,.ho (.raw D FN))::s.H,s.L⟩):
  ∀a w,AK a c.N s.L.d->(∃M,St c.w0 c.M0 w M (HD s.H++(.raw D FN::c.Hr))/\BJ M s.F/\c.M1.le M)->post c B k' .normal (EO (LQ D) a) w:=
 λ a w hs ⟨M,h1,h2,h3⟩=>VI hw k' hk _ _ _ (h a w ⟨hs,M,h1.perm (List.perm_middle.symm),h2,h3⟩)
theorem QF.CZ {P:Program}{fn:Func}{R:Ending->World->Prop}{Q:Exit->Act->World->Prop}(E:QF P fn R Q){t:Tmp}(hr:fn.results= #[.tmp t])(D:Nat):
  Ends P fn (λ e w=>e≠ .outgrown/\w.heap[D]? =some FN/\R e (w.putObj D (.deferred none))) (bD D Q):=⟨λ e a w h=>E.all e (EO (LQ D) a) w (by
 have key: ∀(v:Value),(results fn a.tmps).run P w= .ok v w->(results fn a.tmps).run P (w.putObj D (.deferred none))= .ok v (w.putObj D (.deferred none)):=by
  intro v hv
  rw[results_tmp hr]at hv ⊢
  cases hv;rfl
 cases e with
 |normal=>
  obtain⟨hd,v,hv,_,hD,hR⟩:=h
  show LeavesInM _ _ _ _ _ _ (a.defers++LQ D) _ _
  rw[hd]
  exact⟨by simp,.inl ⟨D,_,rfl,run_takeDeferred hD,v,key v hv,hR⟩⟩
 |ret=>
  obtain⟨hd,v,hv,_,hD,hR⟩:=h
  show LeavesInM _ _ _ _ _ _ (a.defers++LQ D) _ _
  rw[hd]
  exact⟨by simp,.inl ⟨D,_,rfl,run_takeDeferred hD,v,key v hv,hR⟩⟩
 |panic ch=>
  obtain⟨hd,_,hD,hR⟩:=h
  show LeavesInM _ _ _ _ _ _ (a.defers++LQ D) _ _
  rw[hd]
  exact⟨by simp,.inl ⟨D,_,rfl,run_takeDeferred hD,hR⟩⟩
 |outgrown=>exact absurd U h.1
 |exit id=>exact h.elim
 |goto l=>exact h.elim)⟩
theorem DX.shut {c:Cx}{F:List (Nat×Kn)}{H:List (Nat×HX)}{w:World}{M:Mem}{dk D:Nat}(h:DX c F ((dk,.ho (.raw D FN))::H) w M):w.heap[D]? =some FN/\St c.w0 c.M0 (w.putObj D (.deferred none)) M (HD H++c.Hr):=by
 have hS:St c.w0 c.M0 w M (.raw D FN::(HD H++c.Hr)):=h.st
 exact⟨(hS.obj (i:=0) U).2.1,(hS.ZI (k:=0) U _).drop _ (List.sublist_cons_self _ _)⟩
end Go.Eng
namespace Go.Eng
open Go.RowKit
section
variable {c:Cx} {B:Exit->Act->World->Prop} {k k':List Fr} {m:Md} {s s':XS} {O:Prop} {E:List Ck} {all:Array Oper} {rest:List Oper} {d:Nat} {ty:TypeId} {ps:String} {af:Array Edge}
theorem iE{F:List (Nat×Kn)}{H:List (Nat×HX)}{w:World}{M:Mem}(hX:DX c F H w M){post:Act->Prop}: ∀ {l:List Oper} {L:XE} {O:Prop} {E:List Ck},let t:=JV c.T c.N F H all l L O E;t.O->AG t.E->RS c.P all w c.N post t.l t.L.d->O/\AG E/\RS c.P all w c.N post l L.d
 |[],L,O,E=>λ h1 h2 h3=>⟨h1,h2,h3⟩
 |⟨dst,op,ty,ps,af,gd⟩::rest,L,O,E=>by
  intro t h1 h2 h3
  have ht:t=JV c.T c.N F H all (⟨dst,op,ty,ps,af,gd⟩::rest) L O E:=rfl
  unfold JV at ht
  split at ht
  ·rename_i d
   split at ht
   ·rename_i W hW
    split at ht
    ·rename_i v p E' hv
     split at ht
     ·rename_i hd
      obtain⟨O',hi,hO'⟩:=VF (W:=W) (K:=λ O'=>JV c.T c.N F H all rest ((d,W,v)::L) O' (E'++E)) (ps:=p) (O:=O)
      rw[ht,hi]at h1 h2 h3
      obtain⟨r1,r2,r3⟩:=iE hX h1 h2 h3
      obtain⟨hp,hO2⟩:=hO' r1
      exact⟨hO2,(AG.app r2).2,RS.v (MT hW) (S4 c.hT hX.f hX.st AX hv (AG.app r2).1 hp) hd r3⟩
     ·rw[ht]at h1 h2 h3;exact⟨h1,h2,h3⟩
    ·rw[ht]at h1 h2 h3;exact⟨h1,h2,h3⟩
   ·rw[ht]at h1 h2 h3;exact⟨h1,h2,h3⟩
  ·rw[ht]at h1 h2 h3;exact⟨h1,h2,h3⟩
theorem uQ(n:Nat){id:Nat}{l:List Oper}{L':XE}{O2:Prop}{E2:List Ck}(hl: ∀ops Q l a w,c.W.list ops Q l a w->wpList c.P ops Q l a w)(h:run c.T c.N k m s=⟨k',.code (.region id ⟨l⟩ true),s',O,E⟩)(hE:AG E)(hO:O)(hm:c.P.follows .mixedOrders=true)(hB:Region.lexTailB .any l.toArray n=true)
  (hq:JV c.T c.N s'.F s'.H l.toArray (l.take n) s'.L ((0:Int)=0) []=⟨[],L',O2,E2⟩) (hE2:AG E2) (hO2:O2) (hn:XG c B k' (.ops l.toArray (l.drop n)) ⟨s'.F,s'.H,L'⟩):XG c B k m s:=
 CI h hE hO λ a w ⟨h1,M,h2⟩=>c.W.draw (CW.pY n h2.st hm hB (λ w1 hS=>by
  have hX:DX c s'.F s'.H w1 M:=⟨hS,h2.f,h2.le⟩
  have:=iE (all:=l.toArray) hX (post:=λ a'=>wpList c.P l.toArray (post c B k') (l.drop n) a' w1) (l:=l.take n) (L:=s'.L) (O:=(0:Int)=0) (E:=[])
  rw[hq]at this
  exact(this hO2 hE2 (RS.nil λ a hs=>hl _ _ _ _ _ (hn a w1 ⟨hs,M,hX⟩))).2.2) a h1)
def KO{α:Type}(w0:World)(M0 M:Mem)(Rs:List HO)(T:TypeId)(r:PR α)(X:α->Int->Ending->World->Prop):Ending->World->Prop:=match r with
 | .ok x j=>X x j
 | .er ec p=>λ e w'=> ∃M',e= .panicked [NS T ec p]/\St w0 M0 w' M' Rs/\M.le M'
theorem BK(ids:List Nat){tw:TypeId}{ec p:Int}{xf:Operand}{f:FuncId}{fa fb:List Value}{E1 E2:List Ck}{xs:List Operand}{tys:Array TypeId}{vs:List XV}{A R:List (Nat×HX)}{dd:Option Tmp}
  (h:run c.T c.N k m s=⟨k',.ops all (⟨dd,.call ⟨.value xf,⟨xs⟩,tys⟩,ty,ps,af,none⟩::rest),s',O,E⟩) (hE:AG E) (hO:O) (hf:callee s'.L xf=some (f,fa,fb,E1)) (ct:CT c.P f) (hx:JT s'.L .t xs=some (vs,E2)) (hE1:AG (E1++E2))
  (hA:LP ids s'.H=some (A,R)) (hc: ∀w M,St c.w0 c.M0 w M (HD A++(HD R++c.Hr))->BJ M s'.F->Calls c.P f (fa++vs.map XV.d++fb).toArray w (λ e w'=> ∃M',e= .panicked [NS tw ec p]/\St c.w0 c.M0 w' M' (HD R++c.Hr)/\M.le M'))
  (hp: ∀a w M,AK a c.N s'.L.d->St c.w0 c.M0 w M (HD R++c.Hr)->c.M1.le M->post c B k' (.panic [NS tw ec p]) a w):XG c B k m s:=by
 refine HS h hE hO λ w M hX=>?_
 have hSt:St c.w0 c.M0 w M (HD A++(HD R++c.Hr)):=hX.st.perm (by rw[<-List.append_assoc];exact(NX hA).append_right _)
 refine ZF ct hf hE1.app.1 (MX hx hE1.app.2) (hc w M hSt hX.f) (λ v w' hr=>?_) (λ ch w' hr ac hs=>?_) (λ w' hr=>?_)
 ·obtain⟨M',he,_⟩:=hr;cases he
 ·obtain⟨M',he,hS,hle⟩:=hr
  cases he
  exact hp ac w' M' hs hS (hX.le.trans hle)
 ·obtain⟨M',he,_⟩:=hr;cases he
theorem uR{dd:Option Tmp}{x:Operand}{v:XV}{t:TypeId}{u:Value}{E1:List Ck}(h:run c.T c.N k m s=⟨k',.ops all (⟨dd,.panic x,ty,ps,af,none⟩::rest),s',O,E⟩)(hE:AG E)(hO:O)(hx:C9 s'.L .t x=some (v,E1))(hE1:AG E1)(hv:v.d= .iface t u)
  (hp: ∀a w M,AK a c.N s'.L.d->DX c s'.F s'.H w M->post c B k' (.panic [{ v:=.iface t u,recovered:=false}]) a w):XG c B k m s:=
 HS h hE hO λ w M hX=>RL.panic (by have:=AT hx hE1;rw[hv]at this;exact this) λ a hs=>hp a w M hs hX
theorem BC{ch:List PanicEntry}: ∀(k:List Fr) {a:Act} {w:World},B (.panic ch) a w->post c B k (.panic ch) a w
 |[],_,_,h=>h
 | .seq y::k,_,_,h=>BC k h
 | .block id::k,_,_,h=>BC k h
 | .scope::k,_,_,h=>BC k h
 | .loop J::k,_,_,h=>BC k h
def ZK:List Fr->Bool
 |[]=>true
 | .loop _::_=>false
 |_::k=>ZK k
theorem VJ{X:List HO}: ∀(k:List Fr),ZK k=true->post { c with Hr:=X} B k=post c B k
 |[],_=>rfl
 | .seq y::k,h=>by
  have ih:=VJ (X:=X) k h
  show Exit.then (c.W.wp y (post { c with Hr:=X} B k)) (post { c with Hr:=X} B k)=_
  rw[ih];rfl
 | .block id::k,h=>by
  have ih:=VJ (X:=X) k h
  show Exit.inBlock id (post { c with Hr:=X} B k)=_
  rw[ih];rfl
 | .scope::k,h=>by
  have ih:=VJ (X:=X) k h
  show Exit.noGoto (post { c with Hr:=X} B k)=_
  rw[ih];rfl
 | .loop J::k,h=>by cases h
theorem iF(ids:List Nat){A R:List (Nat×HX)}(hA:LP ids s.H=some (A,R))(hk:ZK k=true)(h:XG { c with Hr:=HD A++c.Hr} B k m ⟨s.F,R,s.L⟩):XG c B k m s:=by
 intro a w hs
 obtain⟨h1,M,h2⟩:=hs
 have hSt:St c.w0 c.M0 w M (HD R++(HD A++c.Hr)):=h2.st.perm (by
  rw[<-List.append_assoc]
  exact(List.perm_append_comm.trans (NX hA)).append_right _)
 have:=h a w ⟨h1,M,hSt,h2.f,h2.le⟩
 rw[VJ k hk]at this
 exact this
end
end Go.Eng
set_option maxRecDepth 100000
namespace Go.Proofs.YtmjpjbmeamnfpaaGreatDoor
open Go.Eng
abbrev CQ(b:Nat)(v:Value)(i d:Int):HO:=.box b [v,i64 i,i64 d] 60
abbrev AW(b:Nat)(v:Value)(i d:Int):HX:=.box b [.sl 0 v,I i,I d] 60
theorem IA:Tryz.prog.follows .mixedOrders=true:=by kernel_rfl
theorem G9{w0 wv:World}{M0 M:Mem}{Rs:List HO}{b:Nat}{v:Value}{l:List Tk}{i d:Int}(hS:St w0 M0 wv M (CQ b v i d::Rs))(hl:Sl M 9 l.length v (l.flatMap Tk.cells))(h0:0<=i)(h1:i<len l):
  Calls Tryz.prog 25 [.pointer (some ⟨b,0,none⟩)].toArray wv (DQ w0 M0 M Rs (λ _:Unit=>qB (A2 l i)) (λ _=>True) (λ _=>[]) λ _=>[CQ b v i d]):=by
 refine B8 (Hr:=Rs) B3 Tryz.func25 U Tryz.ntmps25 [(0,kn v 9 l Tk.cells)] [(0,AW b v i d)] [.bx 0 b 0] U hS (fc 0 hl (λ _=>rfl) AF) (λ B hB=>?_) U
 refine CY 1 U (A0 U) (by omega) Tryz.zeroValue63 U λ b1=>?_
 refine uQ 10 (λ _ _ _ _ _ h=>h) U (A0 U) (by omega) IA (by decide+kernel) U (A0 U) (by simp only[zb]<;>omega) ?_
 exact AD hB rfl rfl (A0 rfl) (by omega) rfl (A0 rfl) λ w M' hX=>⟨(),M',rfl,trivial,hX.le,hX.st.drop _ (List.sublist_cons_self _ _),λ x h=>by cases h⟩
abbrev FO(t:Tk):XV:=.ag [I t.kind,.v (str t.s),I t.c.kind,I t.c.many,.v (str t.c.name),.v (str t.c.s),.v (.bool t.c.neg),I t.c.e,I t.pos]
theorem HT{w0 wv:World}{M0 M:Mem}{Rs:List HO}{b:Nat}{v:Value}{l:List Tk}{i d:Int}(m:A1)(hS:St w0 M0 wv M (CQ b v i d::Rs))(hl:Sl M 9 l.length v (l.flatMap Tk.cells))(h0:0<=i)(h1:i<len l):
  Calls Tryz.prog 50 [.pointer (some ⟨b,0,none⟩),str m].toArray wv (DQ w0 M0 M Rs (λ _:Unit=>.bool (AL l i m)) (λ _=>True) (λ _=>[]) λ _=>[CQ b v i d]):=by
 refine B8 (Hr:=Rs) B3 Tryz.func50 U Tryz.ntmps50 [(0,kn v 9 l Tk.cells)] [(0,AW b v i d)] [.bx 0 b 0,.v (str m)] U hS (fc 0 hl (λ _=>rfl) AF) (λ B hB=>?_) U
 refine AU [0] (λ _:Unit=>FO (A2 l i)) [] (λ _=>[(0,AW b v i d)]) U (A0 U) (by omega) U Tryz.call25 U U (A0 U) U (λ w M hS hF=>G9 hS (hF.get (k:=0) U).sl h0 h1) (λ _=>rfl) (λ _=>rfl) λ _ _=>?_
 refine SL (FO (A2 l i)) U (A0 U) (by omega) U (λ hb1=>?_) (λ hb1=>?_)
 ·refine AU [0] (λ _:Unit=>FO (A2 l i)) [] (λ _=>[(0,AW b v i d)]) U (A0 U) (by omega) U Tryz.call25 U U (VE hb1 U) U (λ w M hS hF=>G9 hS (hF.get (k:=0) U).sl h0 h1) (λ _=>rfl) (λ _=>rfl) λ _ _=>?_
  exact AD hB rfl rfl (A0 rfl) (by omega) rfl (A0 rfl) λ w M' hX=>⟨(),M',rfl,trivial,hX.le,hX.st,λ x h=>by cases h⟩
 ·exact AD hB rfl rfl (A0 rfl) (by omega) rfl (A0 rfl) λ w M' hX=>⟨(),M',rfl,trivial,hX.le,hX.st,λ x h=>by cases h⟩
theorem ZL{w0 wv:World}{M0 M:Mem}{Rs:List HO}{b:Nat}{v:Value}{l:List Tk}{i d:Int}(m:A1)(hS:St w0 M0 wv M (CQ b v i d::Rs))(hl:Sl M 9 l.length v (l.flatMap Tk.cells))(h0:0<=i)(h1:i<len l):
  Calls Tryz.prog 215 [.pointer (some ⟨b,0,none⟩),str m].toArray wv (DQ w0 M0 M Rs (λ _:Unit=>.bool (DF l i m)) (λ _=>True) (λ _=>[]) λ _=>[CQ b v i d]):=by
 refine B8 (Hr:=Rs) B3 Tryz.func215 U Tryz.ntmps215 [(0,kn v 9 l Tk.cells)] [(0,AW b v i d)] [.bx 0 b 0,.v (str m)] U hS (fc 0 hl (λ _=>rfl) AF) (λ B hB=>?_) U
 refine AU [0] (λ _:Unit=>FO (A2 l i)) [] (λ _=>[(0,AW b v i d)]) U (A0 U) (by omega) U Tryz.call25 U U (A0 U) U (λ w M hS hF=>G9 hS (hF.get (k:=0) U).sl h0 h1) (λ _=>rfl) (λ _=>rfl) λ _ _=>?_
 refine SL (FO (A2 l i)) U (A0 U) (by omega) U (λ hb1=>?_) (λ hb1=>?_)
 ·refine AU [0] (λ _:Unit=>FO (A2 l i)) [] (λ _=>[(0,AW b v i d)]) U (A0 U) (by omega) U Tryz.call25 U U (VE hb1 U) U (λ w M hS hF=>G9 hS (hF.get (k:=0) U).sl h0 h1) (λ _=>rfl) (λ _=>rfl) λ _ _=>?_
  exact AD hB rfl rfl (A0 rfl) (by omega) rfl (A0 rfl) λ w M' hX=>⟨(),M',rfl,trivial,hX.le,hX.st,λ x h=>by cases h⟩
 ·exact AD hB rfl rfl (A0 rfl) (by omega) rfl (A0 rfl) λ w M' hX=>⟨(),M',rfl,trivial,hX.le,hX.st,λ x h=>by cases h⟩
abbrev uS(w0:World)(M0 M:Mem)(Rs:List HO)(ec p:Int):Ending->World->Prop:=λ e w'=> ∃M',e= .panicked [NS 56 ec p]/\St w0 M0 w' M' Rs/\M.le M'
theorem JW{w0 wv:World}{M0 M:Mem}{Rs:List HO}{b:Nat}{v:Value}{l:List Tk}{i d:Int}(ec:Int)(hS:St w0 M0 wv M (CQ b v i d::Rs))(hl:Sl M 9 l.length v (l.flatMap Tk.cells))(h0:0<=i)(h1:i<len l):
  Calls Tryz.prog 26 [.pointer (some ⟨b,0,none⟩),i64 ec].toArray wv (uS w0 M0 M Rs ec (A2 l i).pos):=by
 refine B8 (Hr:=Rs) B3 Tryz.func26 U Tryz.ntmps26 [(0,kn v 9 l Tk.cells)] [(0,AW b v i d)] [.bx 0 b 0,I ec] U hS (fc 0 hl (λ _=>rfl) AF) (λ B hB=>?_) U
 refine AU [0] (λ _:Unit=>FO (A2 l i)) [] (λ _=>[(0,AW b v i d)]) U (A0 U) (by omega) U Tryz.call25 U U (A0 U) U (λ w M hS hF=>G9 hS (hF.get (k:=0) U).sl h0 h1) (λ _=>rfl) (λ _=>rfl) λ _ _=>?_
 refine CX (.v (.iface 56 (.agg #[i64 ec,i64 (A2 l i).pos]))) U (A0 U) (by omega) U (λ w M hX=>PV.iface (v:=.agg #[i64 ec,i64 (A2 l i).pos]) (AT (v:=.ag [I ec,I (A2 l i).pos]) (E:=[]) U (A0 U)) Tryz.underlying56 U) ?_
 exact uR U (A0 U) (by omega) U (A0 U) U λ a w M hs hX=>BC [] (hB.p ⟨M,rfl,hX.st.drop _ (List.sublist_cons_self _ _),hX.le⟩ a hs)
abbrev QH(w0:World)(M0 M:Mem)(Rs:List HO)(b:Nat)(v:Value)(r:PR Unit)(d:Int):Ending->World->Prop:=
 KO w0 M0 M Rs 56 r λ _ j=>DQ w0 M0 M Rs (λ _:Unit=>.tuple #[]) (λ _=>True) (λ _=>[]) λ _=>[CQ b v j d]
theorem uT{w0 wv:World}{M0 M:Mem}{Rs:List HO}{b:Nat}{v:Value}{l:List Tk}{i d:Int}(m:A1)(hS:St w0 M0 wv M (CQ b v i d::Rs))(hl:Sl M 9 l.length v (l.flatMap Tk.cells))(h0:0<=i)(h1:i<len l)(hb:len l<=1099511627776):
  Calls Tryz.prog 128 [.pointer (some ⟨b,0,none⟩),str m].toArray wv (QH w0 M0 M Rs b v (BV l i m) d):=by
 refine B8 (Hr:=Rs) B3 Tryz.func128 U Tryz.ntmps128 [(0,kn v 9 l Tk.cells)] [(0,AW b v i d)] [.bx 0 b 0,.v (str m)] U hS (fc 0 hl (λ _=>rfl) AF) (λ B hB=>?_) U
 refine AU [0] (λ _:Unit=>.v (.bool (AL l i m))) [] (λ _=>[(0,AW b v i d)]) U (A0 U) (by omega) U Tryz.call50 U U (A0 U) U (λ w M hS hF=>HT m hS (hF.get (k:=0) U).sl h0 h1) (λ _=>rfl) (λ _=>rfl) λ _ _=>?_
 refine AE U (A0 U) (by omega) (λ hb1=>?_) (λ hb1=>?_)
 ·have e:BV l i m= .er 1 (A2 l i).pos:=by unfold BV CG;rw[if_neg (by simpa using hb1)]
  refine BK [0] U (A0 U) (by omega) U Tryz.call26 U (A0 U) U (λ w M hS hF=>JW 1 hS (hF.get (k:=0) U).sl h0 h1) λ a w M hs hS hle=>BC _ (hB.p ?_ a hs)
  rw[e];exact⟨M,rfl,hS,hle⟩
 ·have e:BV l i m= .ok () (i+1):=by unfold BV;rw[if_pos (by simpa using hb1)]
  refine NY hB U U (A0 U) (by simp only[zb]<;>omega) λ w M' hX=>?_
  rw[e];exact⟨(),M',rfl,trivial,hX.le,hX.st,λ x h=>by cases h⟩
theorem IB{w0 wv:World}{M0 M:Mem}{Rs:List HO}{b:Nat}{v:Value}{l:List Tk}{i d:Int}(m:A1){r:PR Unit}(h:BV l i m=r)(hS:St w0 M0 wv M (CQ b v i d::Rs))(hl:Sl M 9 l.length v (l.flatMap Tk.cells))(h0:0<=i)(h1:i<len l)(hb:len l<=1099511627776):
 Calls Tryz.prog 128 [.pointer (some ⟨b,0,none⟩),str m].toArray wv (QH w0 M0 M Rs b v r d):=by subst h;exact uT m hS hl h0 h1 hb
theorem uU{w0 wv:World}{M0 M:Mem}{Rs:List HO}{b:Nat}{v:Value}{l:List Tk}{i d:Int}(m:A1)(hS:St w0 M0 wv M (CQ b v i d::Rs))(hl:Sl M 9 l.length v (l.flatMap Tk.cells))(h0:0<=i)(h1:i<len l)(hb:len l<=1099511627776)(hd:0<=d/\d<=64):
  Calls Tryz.prog 164 [.pointer (some ⟨b,0,none⟩),str m].toArray wv (QH w0 M0 M Rs b v (F2 l d i m) (d+1)):=by
 refine B8 (Hr:=Rs) B3 Tryz.func164 U Tryz.ntmps164 [(0,kn v 9 l Tk.cells)] [(0,AW b v i d)] [.bx 0 b 0,.v (str m)] U hS (fc 0 hl (λ _=>rfl) AF) (λ B hB=>?_) U
 refine AU [0] (λ _:Unit=>.v (.bool (AL l i m))) [] (λ _=>[(0,AW b v i d)]) U (A0 U) (by omega) U Tryz.call50 U U (A0 U) U (λ w M hS hF=>HT m hS (hF.get (k:=0) U).sl h0 h1) (λ _=>rfl) (λ _=>rfl) λ _ _=>?_
 refine AE U (A0 U) (by simp only[zb]<;>omega) (λ hb1=>?_) (λ hb1=>?_)
 ·have e:F2 l d i m= .er 3 (A2 l i).pos:=by unfold F2 CG;rw[if_pos hb1]
  refine BK [0] U (A0 U) (by omega) U Tryz.call26 U (A0 U) U (λ w M hS hF=>JW 3 hS (hF.get (k:=0) U).sl h0 h1) λ a w M hs hS hle=>BC _ (hB.p ?_ a hs)
  rw[e];exact⟨M,rfl,hS,hle⟩
 ·have e:F2 l d i m=BV l i m:=by unfold F2;rw[if_neg (by rw[hb1];decide)]
  cases hm:AL l i m with
  |false=>
   have e2:BV l i m= .er 1 (A2 l i).pos:=by unfold BV CG;rw[if_neg (by rw[hm];decide)]
   refine BK [0] U (A0 U) (by omega) U Tryz.call128 U (A0 U) U (λ w M hS hF=>IB m e2 hS (hF.get (k:=0) U).sl h0 h1 hb) λ a w M hs hS hle=>BC _ (hB.p ?_ a hs)
   rw[e,e2];exact⟨M,rfl,hS,hle⟩
  |true=>
   have e2:BV l i m= .ok () (i+1):=by unfold BV;rw[if_pos hm]
   refine AU [0] (λ _:Unit=>.tu []) [] (λ _=>[(0,AW b v (i+1) d)]) U (A0 U) (by omega) U Tryz.call128 U U (A0 U) U (λ w M hS hF=>IB m e2 hS (hF.get (k:=0) U).sl h0 h1 hb) (λ _=>rfl) (λ _=>rfl) λ _ _=>?_
   refine NY hB U U (A0 U) (by simp only[zb]<;>omega) λ w M' hX=>?_
   rw[e,e2];exact⟨(),M',rfl,trivial,hX.le,hX.st,λ x h=>by cases h⟩
theorem uV{w0 wv:World}{M0 M:Mem}{Rs:List HO}{b:Nat}{v:Value}{l:List Tk}{i d:Int}(m:A1)(hS:St w0 M0 wv M (CQ b v i d::Rs))(hl:Sl M 9 l.length v (l.flatMap Tk.cells))(h0:0<=i)(h1:i<len l)(hb:len l<=1099511627776)(hd:0<=d/\d<=65):
  Calls Tryz.prog 168 [.pointer (some ⟨b,0,none⟩),str m].toArray wv (QH w0 M0 M Rs b v (BV l i m) (d-1)):=by
 refine B8 (Hr:=Rs) B3 Tryz.func168 U Tryz.ntmps168 [(0,kn v 9 l Tk.cells)] [(0,AW b v i d)] [.bx 0 b 0,.v (str m)] U hS (fc 0 hl (λ _=>rfl) AF) (λ B hB=>?_) U
 cases hm:AL l i m with
 |false=>
  have e2:BV l i m= .er 1 (A2 l i).pos:=by unfold BV CG;rw[if_neg (by rw[hm];decide)]
  refine BK [0] U (A0 U) (by omega) U Tryz.call128 U (A0 U) U (λ w M hS hF=>IB m e2 hS (hF.get (k:=0) U).sl h0 h1 hb) λ a w M hs hS hle=>BC _ (hB.p ?_ a hs)
  rw[e2];exact⟨M,rfl,hS,hle⟩
 |true=>
  have e2:BV l i m= .ok () (i+1):=by unfold BV;rw[if_pos hm]
  refine AU [0] (λ _:Unit=>.tu []) [] (λ _=>[(0,AW b v (i+1) d)]) U (A0 U) (by omega) U Tryz.call128 U U (A0 U) U (λ w M hS hF=>IB m e2 hS (hF.get (k:=0) U).sl h0 h1 hb) (λ _=>rfl) (λ _=>rfl) λ _ _=>?_
  refine NY hB U U (A0 U) (by simp only[zb]<;>omega) λ w M' hX=>?_
  rw[e2];exact⟨(),M',rfl,trivial,hX.le,hX.st,λ x h=>by cases h⟩
end Go.Proofs.YtmjpjbmeamnfpaaGreatDoor
namespace Go.Eng
open Go.RowKit
theorem St.uW {w0 w:World}{M0 M:Mem}{Hs:List HO}(h:St w0 M0 w M Hs)(e:TypeId)(sz cap:Nat)(cur:Array Value)(hc:cur.size=cap*sz)(hm:cap<=maxLen):
  St w0 M0 (w.alloc (.cells cur e)) M (.priv e sz (.slice (some ⟨w.heap.size,0,none⟩) 0 cap) 0 []::Hs):=by
 have h1:=h.ext (Ext.alloc w (.cells cur e))
 refine⟨h1.low,h1.sat,h1.old,λ x hx=>?_,List.pairwise_cons.2 ⟨λ y hy b hb=>?_,h.apart⟩⟩
 ·rcases List.mem_cons.1 hx with rfl|hx
  ·refine⟨⟨by simp,.inr ⟨w.heap.size,cap,cur,rfl,h.size,heap_alloc_new _ _,Nat.zero_le _,hm,hc,by simp⟩⟩,λ b hb o=>?_⟩
   simp only[Value.ownBlock,Option.some.injEq]at hb;subst hb
   exact h.R9 (Nat.le_refl _) o
  ·exact h1.ok x hx
 ·simp only[HO.FF,Value.ownBlock,Option.some.injEq]at hb;subst hb
  intro hy'
  have:=(HO.ok.lt (h.ok y hy) hy').2
  omega
end Go.Eng
namespace Go.Proofs.YtmjpjbmeamnfpaaGreatDoor
open Go.Eng Go.RowKit
set_option maxHeartbeats 1000000 in
set_option maxRecDepth 100000 in
theorem uX(w:World):Calls Tryz.prog 171 #[.slice none 0 0,.int .i64 0] w λ e w'=>e= .returned (.slice none 0 0)/\w'=w:=by
 have mixed:Tryz.prog.follows .mixedOrders=true:=by kernel_rfl
 go_enter Tryz.func171,Tryz.ntmps171
 go_wp2
 all_goals (go_ret;exact⟨rfl,rfl⟩)
set_option maxHeartbeats 4000000 in
set_option maxRecDepth 100000 in
theorem uY(n:Nat)(w:World)(h0:0<n)(hbig:n*120<=140737488355328):Calls Tryz.prog 171 #[.slice none 0 0,.int .i64 n] w λ e w'=>
  ∃cap cur,e= .returned (.slice (some ⟨w.heap.size,0,none⟩) 0 cap)/\cap<=maxLen/\cur.size=cap*11/\w'=w.drew.alloc (.cells cur 51):=by
 obtain⟨i0,hi0,hz0,hs11,hb120⟩: ∃i,Tryz.prog.info? 51=some i/\i.zero.isSome=true/\i.size=11/\i.bytes=120:=by
  obtain⟨i,hi,he⟩:=Option.map_eq_some_iff.1 (show(Tryz.prog.info? 51).map (λ i=>(i.zero.isSome,i.size,i.bytes))=some (true,11,120) by kernel_rfl)
  exact⟨i,hi,by simpa using congrArg (·.1) he,by simpa using congrArg (·.2.1) he,by simpa using congrArg (·.2.2) he⟩
 obtain⟨z,hz⟩:=Option.isSome_iff_exists.1 hz0
 have hzc:z.cells.size=11:=by
  have:=show(Tryz.prog.info? 51).bind (λ i=>i.zero.map (λ z=>z.cells.size))=some 11 by kernel_rfl
  rw[hi0]at this;simp only[Option.bind_some,hz,Option.map_some,Option.some.injEq]at this;exact this
 have mixed:Tryz.prog.follows .mixedOrders=true:=by kernel_rfl
 have us:=λ w=>run_underlying (P:=Tryz.prog) (w:=w) Tryz.underlying23
 have ui:=λ w=>run_underlying (P:=Tryz.prog) (w:=w) Tryz.underlying3
 have h1: ¬((n:Int)<0):=by omega
 have h3:wrap64 ((n:Int)-0)=(n:Int):=by unfold wrap64;omega
 have h4:(n:Int)>0:=by omega
 have hold:(Builtin.firstCells i0.size 0 (.slice none 0 0)).run Tryz.prog w.drew= .ok #[] w.drew:=run_firstCells_none w.drew i0.size 0 0 0
 have hrz: ∀ty,(Builtin.append_ #[23,3] ty #[.slice none 0 0,.int .i64 (n:Int)]).run Tryz.prog w=
   .ok (.slice (some ⟨w.heap.size,0,none⟩) n (grownCap w n 0 51)) (w.drew.alloc (.cells (#[]++Builtin.zeroCells z.cells n++Builtin.zeroCells z.cells (grownCap w n 0 51-n)) 51)):=λ ty=>by
  have h:=Lib.run_append_grow_zeros w 23 3 ty 51 i0 z .i64 .i64 Tryz.underlying23 Tryz.underlying3 hi0 hz none 0 0 [] hold n (by omega) (by omega) (by omega) (by omega)
   (by rw[hb120];omega) (by rw[Nat.zero_add];exact growslice_fits h0 (by rw[hb120];omega))
  rw[Nat.zero_add]at h
  exact h
 have hGn:n<=grownCap w n 0 51:=grownCap_ge w _ _ _
 have hGm:grownCap w n 0 51<=maxLen:=grownCap_le_maxLen w n 0 51 (by unfold maxLen;omega)
 obtain⟨G,hG⟩: ∃G,G=grownCap w n 0 51:=⟨_,rfl⟩
 rw[<-hG]at hrz hGn hGm
 have hG63:G<=9223372036854775807:=by unfold maxLen at hGm;omega
 have hzs: ∀k,(Builtin.zeroCells z.cells k).size=k*11:=λ k=>by simp[Builtin.zeroCells,hzc]
 have hsz:(#[]++Builtin.zeroCells z.cells n++Builtin.zeroCells z.cells (G-n)).size=G*11:=by rw[Array.size_append,Array.size_append,hzs,hzs];simp;omega
 generalize (#[]++Builtin.zeroCells z.cells n++Builtin.zeroCells z.cells (G-n))=cur at hrz hsz
 clear hold hG hi0
 go_enter Tryz.func171,Tryz.ntmps171
 go_wp2_with (at_builtin;refine Lib.wpList_append_run _ U _ _ _ _ U _ _ U U _ _ (hrz _) ?_)
 all_goals (go_ret;exact⟨G,rfl,hGm,_,hsz,rfl⟩)
theorem uZ{w wv:World}{M0 M:Mem}{Hs:List HO}(n:Int)(hS:St w M0 wv M Hs)(h0:0<=n)(hb:n<=1099511627776):
  Calls Tryz.prog 171 [.slice none 0 0,i64 n].toArray wv λ e w'=> ∃u,e= .returned u/\St w M0 w' M (.priv 51 11 u 0 []::Hs):=by
 by_cases hn:n=0
 ·subst hn
  exact(uX wv).mono λ e w' ⟨he,hw⟩=>⟨_,he,hw▸hS.fX _ _⟩
 ·have hg:=uY n.toNat wv (by omega) (by omega)
  rw[show((n.toNat:Nat):Int)=n from by omega]at hg
  refine hg.mono λ e w' ⟨cap,cur,he,hc,hs,hw⟩=>⟨_,he,?_⟩
  subst hw
  exact(hS.ext (Ext.drew wv)).uW _ 11 cap cur hs hc
end Go.Proofs.YtmjpjbmeamnfpaaGreatDoor
