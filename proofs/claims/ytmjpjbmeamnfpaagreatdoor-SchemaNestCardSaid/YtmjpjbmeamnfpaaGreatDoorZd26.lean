/-
  Parts Xo Ir Iv, put together and made short by wip/py/merge.py (mini.py).
-/
import Derived.Test.YtmjpjbmeamnfpaaGreatDoorZd11
import Derived.Test.YtmjpjbmeamnfpaaGreatDoorZd23
import Derived.Test.YtmjpjbmeamnfpaaGreatDoorZd24
import Derived.Test.YtmjpjbmeamnfpaaGreatDoorZd25
import Derived.Test.YtmjpjbmeamnfpaaGreatDoorZd12
import Derived.Test.YtmjpjbmeamnfpaaGreatDoorZd21
import Derived.Test.YtmjpjbmeamnfpaaGreatDoorZd0
set_option linter.unusedVariables false
set_option linter.unusedSimpArgs false
namespace Go.Eng
open Go.RowKit
def cw(c:Cx):Cx:= { c with W:=Wk.wide c.P}
section
variable {c:Cx} {B:Exit->Act->World->Prop} {k k':List Fr} {m:Md} {s s':XS} {O:Prop} {E:List Ck} {l:List Oper}
theorem xJ{a:Act}{w:World}(h:F4 c s a w):F4 (cw c) s a w:=let⟨h1,M,h2⟩:=h;⟨h1,M,h2.st,h2.f,h2.le⟩
theorem xK{a:Act}{w:World}(h:F4 (cw c) s a w):F4 c s a w:=let⟨h1,M,h2⟩:=h;⟨h1,M,h2.st,h2.f,h2.le⟩
theorem iH(es:List Nat)(n:Nat){id:Nat}(h:run c.T c.N k m s=⟨k',.code (.region id ⟨l⟩ true),s',O,E⟩)(hE:A5 E)(hO:O)(hm:c.P.follows .mixedOrders=true)(hB:(MW l []&&DM (λ e=>Nat.blt e l.length) es)=true)(hn:DG (cw c) (post c B k') [] l es n [] [] [] [] s'):XG c B k m s:=by
 rw[Bool.and_eq_true]at hB
 exact CA h hE hO λ a w hs=>c.W.drawS (bY (c:=cw c) (B:=post c B k') (k:=[]) (id:=id) es n (λ _ _ _ _ _ h=>h) hm hB.1 hB.2 hn (xJ hs))
theorem Y4(h:XG c B k .next s):XG (cw c) (post c B k) [] .next s:=λ a w hs=>h a w (xK hs)
end
def Y5(c:Cx)(Js:XS->Prop):Exit->Act->World->Prop
 | .ret,a,w=> ∃s,Js s/\F4 c s a w
 |_,_,_=>False
theorem xL{c:Cx}{Js:XS->Prop}: ¬LetsOut (Y5 c Js):=λ⟨_,_,h⟩=>h
theorem TL{c:Cx}{k:List Fr}{m:Md}{s s':XS}{O:Prop}{E:List Ck}{Js:XS->Prop}(s2:XS)(h:run c.T c.N k m s=⟨[],.ret,s',O,E⟩)(hE:A5 E)(hO:O)(h0:(⟨I6 s2.F s'.F,I7 s2.H s'.H,F5 (keys s2.L) s'.L⟩:XS)=s2)(hJ:Js s2):XG c (Y5 c Js) k m s:=
 CA h hE hO λ a w hs=>⟨s2,hJ,hs.sub (XS.N6 h0)⟩
def iI(P:Program)(gf:FuncId)(lb:List Value)(n:Nat)(w0:World)(M0:Mem)(Rs:List HO){τ:Type}(av:Nat->τ->List XV)(pa:Nat->τ->Prop)(FA:Nat->τ->List (Nat×Kn))(w:World)(M:Mem):Prop:=
 ∀(γ:Type) (ub:γ->Bool) (I:Nat->γ->Prop) (J:γ->Prop) (Hy:γ->List HO) (Fy:γ->List (Nat×Kn)) (l:Nat) (g0:γ),(∃x1 x2 x3 x4 x5:γ->HO,∀g,Hy g=[x1 g,x2 g,x3 g,x4 g,x5 g])->St w0 M0 w M (Hy g0++Rs)->B1 M (Fy g0)->I 0 g0->
  (∀k g y w' M',k<n->I k g->pa k y->St w0 M0 w' M' (Hy g++Rs)->M.le M'->B1 M' (FA k y)->B1 M' (Fy g)->
   aQ P l ((av k y).map XV.d).toArray w' (CM w0 M0 M' Rs (λ g:γ=>.bool (ub g)) (λ g=>if ub g=true then I (k+1) g else J g) Fy Hy))->
  Calls P gf (.func (.yield l) #[] #[]::lb).toArray w (CM w0 M0 M Rs (λ _:γ=>.tuple #[]) (λ g=>I n g\/J g) Fy Hy)
theorem xM{c:Cx}{B:Exit->Act->World->Prop}{k k':List Fr}{m:Md}{s s':XS}{O:Prop}{E:List Ck}{σ τ:Type}(Sf:σ->XS)(I:Nat->σ->Prop)(J:σ->Prop)(g0:σ){gop:Operand}{ps:List Tmp}{assign body:Code}{gf:FuncId}{lb:List Value}{n:Nat}{av:Nat->τ->List XV}{pa:Nat->τ->Prop}{FA:Nat->τ->List (Nat×Kn)}{E1:List Ck}(Sa:Nat->σ->τ->XS)
  (hw: ∀x Q a w,x.wp c.P Q a w->c.W.wp x Q a w) (h:run c.T c.N k m s=⟨k',.code (.rangeFunc gop ⟨ps⟩ assign body),s',O,E⟩) (hE:A5 E) (hO:O)
  (hg:BA s'.L .t gop=some (.v (.func (.func gf) #[] ⟨lb⟩),E1)) (hE1:A5 E1) (ct:CT c.P gf)
  (h0:(⟨I6 (Sf g0).F s'.F,I7 (Sf g0).H s'.H,F5 (keys (Sf g0).L) s'.L⟩:XS)=Sf g0) (hI:I 0 g0) (hL: ∀g,(Sf g).L=(Sf g0).L)
  (hH: ∃x1 x2 x3 x4:σ->HO,∀g,HD (Sf g).H=[x1 g,x2 g,x3 g,x4 g]) (hit: ∀w M D w',CS c s'.F s'.H w M->iI c.P gf lb n c.w0 c.M0 (.raw D D7::c.Hr) av pa FA w' M)
  (hps: ∀k y,NI c.N ps (av k y)=true)
  (ha: ∀k g y l D r M,k<n->I k g->pa k y->XG (cR c l D r M) nB [.loop (λ t=>t=Sa k g y)] (.code assign) ⟨FA k y++(Sf g).F,(Sf g).H,pz ps (av k y) (Sf g).L⟩) (hsa:CH assign=true)
  (hb: ∀k g y l D r M,k<n->I k g->pa k y->XG (cR c l D r M) (Y5 (cR c l D r M) (λ t=> ∃g',t=Sf g'/\J g')) [.loop (λ t=> ∃g',t=Sf g'/\I (k+1) g')] (.code body) (Sa k g y)) (hsb:CH body=true)
  (hn: ∀D g a w,I n g->A9 a c.N (Sf g).L.d->(∃M,St c.w0 c.M0 w M (HD (Sf g).H++(.raw D D7::c.Hr))/\B1 M (Sf g).F/\c.M1.le M)->post c B k' .normal (CB [⟨.collected D,#[]⟩] a) w)
  (hr: ∀D g a w,J g->A9 a c.N (Sf g).L.d->(∃M,St c.w0 c.M0 w M (HD (Sf g).H++(.raw D D7::c.Hr))/\B1 M (Sf g).F/\c.M1.le M)->post c B k' .ret (CB [⟨.collected D,#[]⟩] a) w):XG c B k m s:=by
 refine CA h hE hO λ a w hs=>?_
 obtain⟨hsl,M,hX⟩:=hs
 have hX0:=hX.sub (XS.N6 h0)
 have hslL:=aI hsl (XS.N6 h0).1
 refine hw _ _ _ _ ((wpIn_wide (n:=1)).1 (wpIn_rangeFunc λ fn _=>?_))
 obtain⟨rec,hrec⟩: ∃rec:LoopState->Option Code->Loop,rec=λ st pe=> { state:=st,pending:=pe,fn,tmps:=a.tmps,params:=⟨ps⟩,assign,body,defers:=w.heap.size}:=⟨_,rfl⟩
 obtain⟨rc,hrc⟩: ∃rc:Bool->Obj,rc=λ b=>if b=true then .loop (rec .ready none)else .loop (rec .done (some .ret)):=⟨_,rfl⟩
 have hrt:rc true= .loop (rec .ready none):=by rw[hrc];rfl
 have hrf:rc false= .loop (rec .done (some .ret)):=by rw[hrc];rfl
 have hS1:=(hX0.st.LA D7).LA (rc true)
 rw[World.size_alloc]at hS1
 have hS2:=hS1.perm nJ
 have hgv:a.eval gop= .func (.func gf) #[] ⟨lb⟩:=AI hg hE1 a c.N hsl U
 have pass: ∀(b:Bool) (x:Obj),∀ {A:List HO},(A++[HO.raw (w.heap.size+1) x])++(.raw w.heap.size D7::c.Hr)=A++(.raw (w.heap.size+1) x:: .raw w.heap.size D7::c.Hr):=λ _ _ _=>by simp
 refine⟨w.heap.size+1,[⟨.collected w.heap.size,#[]⟩],(w.alloc D7).alloc (rc true),⟨.fn (.func gf) ⟨lb⟩,#[.func (.yield (w.heap.size+1)) #[] #[]]⟩,(w.alloc D7).alloc (rc true),gf,
  (.func (.yield (w.heap.size+1)) #[] #[]::lb).toArray,(w.alloc D7).alloc (rc true),by rw[hrt,hrec];exact run_enterLoop_outer _ _ _ _ _,?_,λ _ _=>trivial,?_,(λ h=>by cases h),callsIn_wide.2 ?_⟩
 ·simp only[resolve,hgv]
  simp[go_sem]
 ·simp[invoke,go_sem,ct]
 ·obtain⟨x1,x2,x3,x4,hx⟩:=hH
  refine(hit w M _ _ hX (Bool×σ) (λ g=>g.1) (λ k g=>g.1=true/\I k g.2) (λ g=>g.1=false/\J g.2) (λ g=>HD (Sf g.2).H++[.raw (w.heap.size+1) (rc g.1)]) (λ g=>(Sf g.2).F) (w.heap.size+1) (true,g0)
   ⟨λ g=>x1 g.2,λ g=>x2 g.2,λ g=>x3 g.2,λ g=>x4 g.2,λ g=>.raw (w.heap.size+1) (rc g.1),λ g=>by rw[hx];rfl⟩ (by rw[pass true];exact hS2) hX0.f ⟨rfl,hI⟩ λ kk g y w' M' hk hIg hp hS hle hFA hF=>?_).mono ?_
  ·obtain⟨gb,g⟩:=g
   obtain⟨hgb,hIg⟩:=hIg
   dsimp only at hgb hIg hF
   subst hgb
   dsimp only at hS
   rw[pass true,hrt]at hS
   have hi:(HD (Sf g).H++(HO.raw (w.heap.size+1) (.loop (rec .ready none)):: .raw w.heap.size D7::c.Hr))[(HD (Sf g).H).length]? =some (.raw (w.heap.size+1) (.loop (rec .ready none))):=by simp
   have hl:=(hS.obj hi).2.1
   have hz:=aR ps (av kk y) (L:=(Sf g).L) (a:=a) (hps kk y) (by rw[hL];exact hslL)
   have hy:=run_yield (P:=c.P) (args:=((av kk y).map XV.d).toArray) hl (by rw[hrec];simp[aS (hps kk y)])
   refine⟨_,_,_,_,hy,roundIn_of_wpIn trivial ?_⟩
   have h1:=ha kk g y (w.heap.size+1) w.heap.size (.loop (rec .ready none)) M' hk hIg hp _ w' ⟨hz,M',hS,hFA.app hF,Mem.le.refl _⟩
   have h2:=h1 (RU nI) hsa
   rw[hrec]
   dsimp only
   refine wpIn_mono (F:=FR (some (w.heap.size+1))) (by simpa using h2) λ e a1 w1 q=>?_
   cases e with
   |normal=>
    obtain⟨sa,rfl,hsat⟩:=q
    obtain⟨hl1,hsat1⟩:=VH (r':=.loop { rec .ready none with state:=.busy}) hsat
    refine⟨_,run_beginRound hl1 (by rw[hrec]),?_⟩
    have h4:=hb kk g y (w.heap.size+1) w.heap.size (.loop { rec .ready none with state:=.busy}) M' hk hIg hp a1 _ hsat1 (RU xL) hsb
    refine wpIn_mono (F:=FR (some (w.heap.size+1))) h4 λ e a3 w3 q=>?_
    cases e with
    |normal=>
     obtain⟨sb,⟨g',rfl,hI'⟩,hsat3⟩:=q
     obtain⟨hl3,hsat4⟩:=VH (r':=rc true) hsat3
     have hr:=run_endRound (P:=c.P) none hl3
     refine⟨_,_,hr,?_⟩
     obtain⟨_,M3,hS6,hF6,hle6⟩:=hsat4
     refine⟨(true,g'),M3,rfl,⟨rfl,hI'⟩,hle6,?_,hF6⟩
     dsimp only
     rw[pass true]
     have e1:Obj.loop { { rec .ready none with state:=.busy}with state:=if(none:Option Code).isNone=true then LoopState.ready else LoopState.done,pending:=none}=rc true:=by rw[hrt,hrec];rfl
     rw[e1];exact hS6
    |ret=>
     obtain⟨sb,⟨g',rfl,hJ'⟩,hsat3⟩:=q
     obtain⟨hl3,hsat4⟩:=VH (r':=rc false) hsat3
     have hr:=run_endRound (P:=c.P) (some .ret) hl3
     refine⟨_,_,hr,?_⟩
     obtain⟨_,M3,hS6,hF6,hle6⟩:=hsat4
     refine⟨(false,g'),M3,rfl,⟨rfl,hJ'⟩,hle6,?_,hF6⟩
     dsimp only
     rw[pass true]
     have e1:Obj.loop { { rec .ready none with state:=.busy}with state:=if(some Code.ret:Option Code).isNone=true then LoopState.ready else LoopState.done,pending:=some .ret}=rc false:=by rw[hrf,hrec];rfl
     rw[e1];exact hS6
    |_=>exact q.elim
   |_=>exact q.elim
  ·rintro e W2 ⟨⟨gb,g⟩,M',rfl,hIn,hle,hS3,hF3⟩
   dsimp only at hIn hS3 hF3
   rw[pass true]at hS3
   have hi:(HD (Sf g).H++(HO.raw (w.heap.size+1) (rc gb):: .raw w.heap.size D7::c.Hr))[(HD (Sf g).H).length]? =some (.raw (w.heap.size+1) (rc gb)):=by simp
   have hl:=(hS3.obj hi).2.1
   have hd:a.defers=[]:=hsl.C2
   have hupd: ∀a':Act,a'.defers=[]->CB [⟨.collected w.heap.size,#[]⟩] a'= { a' with defers:=[⟨.collected w.heap.size,#[]⟩]++a'.defers}:=λ a' h=>by unfold CB;rw[h];rfl
   have hS5: ∀o',St c.w0 c.M0 (W2.putObj (w.heap.size+1) o') M' (HD (Sf g).H++(.raw w.heap.size D7::c.Hr)):=λ o'=>(hS3.VG hi o').drop _ (by
    rw[List.set_append_right _ _ (Nat.le_refl _),Nat.sub_self]
    exact List.Sublist.append (List.Sublist.refl _) (List.sublist_cons_self _ _))
   rcases hIn with⟨hgb,hIn⟩|⟨hgb,hJn⟩
   ·subst hgb
    rw[hrt]at hl
    have hend:=run_endLoop (P:=c.P) hl (by rw[hrec];simp)
    have hend2:(Instr.endLoop (w.heap.size+1)).run c.P W2= .ok none (W2.putObj (w.heap.size+1) (.loop { rec .ready none with state:=.exhausted})):=by rw[hend];rw[hrec]
    refine⟨none,_,hend2,?_⟩
    have:=hn w.heap.size g a (W2.putObj (w.heap.size+1) (.loop { rec .ready none with state:=.exhausted})) hIn (by rw[hL];exact hslL) ⟨M',hS5 _,hF3,hX.le.trans hle⟩
    rw[hupd a hd]at this
    exact this
   ·subst hgb
    rw[hrf]at hl
    have hend:=run_endLoop (P:=c.P) hl (by rw[hrec];simp)
    have hend2:(Instr.endLoop (w.heap.size+1)).run c.P W2= .ok (some .ret) (W2.putObj (w.heap.size+1) (.loop { rec .done (some .ret)with state:=.exhausted})):=by rw[hend];rw[hrec]
    refine⟨some .ret,_,hend2,?_⟩
    have:=hr w.heap.size g a (W2.putObj (w.heap.size+1) (.loop { rec .done (some .ret)with state:=.exhausted})) hJn (by rw[hL];exact hslL) ⟨M',hS5 _,hF3,hX.le.trans hle⟩
    rw[hupd a hd]at this
    exact wpIn_ret this
theorem xN{P:Program}{N:Nat}{w0:World}{M0 M1:Mem}{Hr:List HO}{T:TT}{hT:D6 P T}{B:Exit->Act->World->Prop}{k k':List Fr}{m:Md}{s s':XS}{O:Prop}{E:List Ck}{all:Array Oper}{rest:List Oper}{d:Nat}{ty:TypeId}{ps:String}{af:Array Edge}
  {γ:Type} (Hx:γ->List (Nat×HX)) (ub:γ->Bool) (ids:List Nat) {pu:γ->Prop} {Fg:γ->List (Nat×Kn)} {Hg:γ->List HO} {l:Nat} {xf:Operand} {E1 E2:List Ck} {xs:List Operand} {tys:Array TypeId} {vs:List XV} {A R:List (Nat×HX)} (ks:List Nat)
  (h:run T N k m s=⟨k',.ops all (⟨some d,.call ⟨.value xf,⟨xs⟩,tys⟩,ty,ps,af,none⟩::rest),s',O,E⟩) (hE:A5 E) (hO:O) (hf:BA s'.L .t xf=some (.v (.func (.yield l) #[] #[]),E1)) (hE1:A5 E1) (hd:Nat.blt d N=true) (hx:H3 s'.L .t xs=some (vs,E2)) (hE2:A5 E2)
  (hA:I9 ids s'.H=some (A,R)) (hc: ∀w M,St w0 M0 w M (HD A++(HD R++Hr))->B1 M s'.F->M1.le M->aQ P l (vs.map XV.d).toArray w (CM w0 M0 M (HD R++Hr) (λ g:γ=>.bool (ub g)) pu Fg Hg)) (hH: ∀g,HD (Hx g)=Hg g)
  (hn: ∀g,pu g->XG ⟨P,N,w0,M0,M1,Hr,T,hT,.RX P none 1⟩ B k' (.ops all rest) ⟨ND ks (Fg g)++s'.F,Hx g++R,(d,.t,.v (.bool (ub g)))::s'.L⟩):XG ⟨P,N,w0,M0,M1,Hr,T,hT,.RX P none 1⟩ B k m s:=by
 refine CA h hE hO λ a w ⟨hs,M,hX⟩ hl hst=>?_
 rw[List.all_cons,Bool.and_eq_true]at hst
 have hSt:St w0 M0 w M (HD A++(HD R++Hr)):=hX.st.perm (by rw[<-List.append_assoc];exact(KI hA).append_right _)
 obtain⟨fn,tmps,assign,body,hy,hr⟩:=hc w M hSt hX.f hX.le
 unfold wpListIn
 rw[if_pos (show Region.wanted ⟨some d,.call ⟨.value xf,⟨xs⟩,tys⟩,ty,ps,af,none⟩ (yielded all a.tmps)=true from rfl)]
 refine⟨λ _ _=>trivial,?_⟩
 have key:=pD (P:=P) (w:=w) (AI hf hE1) (JN hx hE2) hs U (d:=some d) (tys:=tys) (ty:=ty) (ps:=ps) (af:=af) (gd:=none)
 rw[show(FR none).round=none from rfl,show ∀(o:Oper),Oper.semAt none a.eval o=execOp a.eval o from λ _=>rfl]
 have e1:(⟨xs⟩:Array Operand)=xs.toArray:=rfl
 rw[e1,key,hy]
 refine⟨(λ h=>by cases h),RoundIn.mono (R:=CM w0 M0 M (HD R++Hr) (λ g:γ=>.bool (ub g)) pu Fg Hg) hr λ e w' he=>?_⟩
 obtain⟨g,M',rfl,hp,hle,hS,hF⟩:=he
 have hs2:=P0 hs hd (.v (.bool (ub g)))
 have e2:HD (Hx g++R)++Hr=Hg g++(HD R++Hr):=by rw[<-hH];unfold HD;rw[List.map_append,List.append_assoc]
 exact hn g hp _ w' ⟨hs2,M',by rw[e2];exact hS,(RO hF).app (hX.f.mono hle),hX.le.trans hle⟩ hl hst.2
theorem JO.leave {P:Program}{T:TT}(hT:D6 P T){fn:Func}{R:Ending->World->Prop}{Q:Exit->Act->World->Prop}(hB:JO P fn R Q){D N:Nat}{H:List (Nat×HX)}{Hr:List HO}{L:XE}{a:Act}{w0 w:World}{M0 M:Mem}{rs:List ResultVar}{vs:List XV}{E2:List Ck}
  (hS:St w0 M0 w M (HD H++(.raw D D7::Hr))) (hs:A9 a N L.d) (hr:fn.results=⟨rs⟩) (hl:KK T H L rs=some (vs,E2)) (hE2:A5 E2) (hR: ∀w',St w0 M0 w' M (HD H++Hr)->R (.returned (LM vs)) w'):Q .ret (CB (GK D) a) w:=by
 have hi:(HD H++(HO.raw D D7::Hr))[(HD H).length]? =some (.raw D D7):=by simp
 have hD:=(hS.obj hi).2.1
 have hS5:St w0 M0 (w.putObj D (.deferred none)) M (HD H++Hr):=(hS.VG hi (.deferred none)).drop _ (by
  rw[List.set_append_right _ _ (Nat.le_refl _),Nat.sub_self]
  exact List.Sublist.append (List.Sublist.refl _) (List.sublist_cons_self _ _))
 refine hB.all .ret (CB (GK D) a) w ?_
 show LeavesInM _ _ _ _ _ _ (a.defers++GK D) _ _
 rw[hs.C2]
 exact⟨by simp,.inl ⟨D,_,rfl,run_takeDeferred hD,_,(T8 (a:=a) hT hS5 hs hr hl hE2:(results fn a.tmps).run P _=_),hR _ hS5⟩⟩
theorem xO{c:Cx}{k:List Fr}{m:Md}{s s':XS}{O:Prop}{E:List Ck}{fn:Func}{R:Ending->World->Prop}{B0:Exit->Act->World->Prop}{D dk:Nat}{H:List (Nat×HX)}{rs:List ResultVar}{vs:List XV}{E2:List Ck}(hB:JO c.P fn R B0)(hr:fn.results=⟨rs⟩)(h:run c.T c.N k m s=⟨[],.ret,s',O,E⟩)(hE:A5 E)(hO:O)
  (hH:s'.H=(dk,.ho (.raw D D7))::H) (hl:KK c.T H s'.L rs=some (vs,E2)) (hE2:A5 E2) (hR: ∀w M,St c.w0 c.M0 w M (HD H++c.Hr)->B1 M s'.F->c.M1.le M->R (.returned (LM vs)) w):XG c (bD D B0) k m s:=
 CA h hE hO λ a w ⟨h1,M,h2⟩=>hB.leave c.hT (D:=D) (H:=H) (Hr:=c.Hr) (M:=M) (by
  have:=h2.st
  rw[hH]at this
  have e:HD ((dk,HX.ho (HO.raw D D7))::H)++c.Hr= .raw D D7::(HD H++c.Hr):=rfl
  rw[e]at this
  exact this.perm List.perm_middle) h1 hr hl hE2 λ w' h=>hR w' M h h2.f h2.le
end Go.Eng
set_option maxRecDepth 100000
namespace Go.Eng
def CR(t:Tf)(k:Nat):Int:=1+len (AF (t.ps.take k))
theorem TM(t:Tf)(k:Nat):D9 t.flat (CR t k) (t.ps.drop k) []:=by
 have h0:=AA (AF (t.ps.take k))
 refine⟨by unfold CR;omega,?_⟩
 rw[Tf.HS,show(CR t k).toNat=(AF (t.ps.take k)).length+1 by unfold CR len;omega,List.drop_succ_cons]
 conv=>lhs;rw[<-List.take_append_drop k t.ps,H8]
 simp
theorem Y6{t:Tf}{k:Nat}(hk:k<t.ps.length):CR t (k+1)=CR t k+len (at' t.ps (k:Int)).flat:=by
 obtain⟨h1,h2⟩:=FP t.ps (i:=(k:Int)) (by omega) (by unfold len;omega)
 unfold CR
 rw[List.take_add_one,H8,AJ,h2]
 simp[hk,AF]
 omega
theorem QA(t:Tf)(k:Nat):1<=CR t k/\CR t k<=len t.flat:=by
 have h0:=AA (AF (t.ps.take k))
 have h1:=AA (AF (t.ps.drop k))
 have h2:len t.flat=1+(len (AF (t.ps.take k))+len (AF (t.ps.drop k))):=by
  rw[Tf.HS,AL,<-AJ,<-H8,List.take_append_drop];omega
 unfold CR;omega
theorem xP{t:Tf}{k:Nat}(hk:k<t.ps.length):Eng.sub t.flat (CR t k) (CR t (k+1))=(at' t.ps (k:Int)).flat:=by
 have h:=(TM t k).next hk
 have h2:=TM t (k+1)
 have h3:D9 t.flat (CR t (k+1)) [] (AF (t.ps.drop (k+1))):=⟨h2.1,by rw[h2.2];simp[AF]⟩
 refine h.part h3 ?_ (QA t (k+1)).2
 rw[Y6 hk];have:=(at' t.ps (k:Int)).FM;omega
theorem xQ{t:Tf}{k:Nat}(hk:k<t.ps.length):at' t.flat (CR t k)= { (at' t.ps (k:Int)).t with many:=len (at' t.ps (k:Int)).ps}/\CR t k<len t.flat:=
 let h:=((TM t k).next hk).step;⟨h.2.1,h.1⟩
theorem TN{b:Bool}(hb:b=true){E:List Ck}(h: ∀c∈E,c= .b true b):A5 E:=λ c hc=>by rw[h c hc];exact λ _=>hb
def GX:List Tf->Int->A1->(Tf->Int×Bool)->Int×Bool
 |[],_,_,_=>(0,false)
 |x::l,o,n,F=>if x.t.name=n then(if(F x).2=true then(o+(F x).1,true)else(0,false))else GX l (o+len x.flat) n F
def DB:List Sp->Tf->Int×Bool
 |[],t=>(0,decide (t.t.op=1))
 |s::p,t=>if t.t.op≠2\/s.part=true then(0,false)else GX t.ps 1 s.name (DB p)
theorem iJ{F:Tf->Int×Bool}{n:A1}: ∀ {l:List Tf} {o:Int},(∀x∈l,0<=(F x).1/\(F x).1<len x.flat)->0<o->0<=(GX l o n F).1/\(GX l o n F).1<o+len (AF l)
 |[],o,_,h0=>⟨by show(0:Int)<=0;omega,by have:=AA (AF []);show(0:Int)<_;omega⟩
 |x::l,o,h,h0=>by
  have hx:=h x (.head _)
  have hl:=AA (AF l)
  have hxf:=AA x.flat
  have ih:=iJ (F:=F) (n:=n) (l:=l) (o:=o+len x.flat) (λ y hy=>h y (.tail _ hy)) (by omega)
  have e:len (AF (x::l))=len x.flat+len (AF l):=by show len (x.flat++AF l)=_;rw[AJ]
  rw[e]
  unfold GX
  split
  ·split
   ·exact⟨by show 0<=o+(F x).1;omega,by show o+(F x).1<_;omega⟩
   ·exact⟨by show(0:Int)<=0;omega,by show(0:Int)<_;omega⟩
  ·exact⟨ih.1,by omega⟩
theorem iK: ∀(p:List Sp) (t:Tf),0<=(DB p t).1/\(DB p t).1<len t.flat
 |[],t=>⟨Int.le_refl _,t.FM⟩
 |s::p,t=>by
  unfold DB
  split
  ·exact⟨Int.le_refl _,t.FM⟩
  ·have h:=iJ (F:=DB p) (n:=s.name) (l:=t.ps) (o:=1) (λ x _=>iK p x) (by omega)
   refine⟨h.1,?_⟩
   rw[Tf.HS,AL];omega
theorem Y7{F:Tf->Int×Bool}{n:A1}: ∀ {k:Nat} {l:List Tf} {o:Int},(∀x∈l.take k,x.t.name≠n)->GX l o n F=GX (l.drop k) (o+len (AF (l.take k))) n F
 |0,l,o,_=>by simp[AF,len]
 |k+1,[],o,_=>rfl
 |k+1,x::l,o,h=>by
  have h1:x.t.name≠n:=h x (by simp)
  have ih:=Y7 (F:=F) (n:=n) (k:=k) (l:=l) (o:=o+len x.flat) λ y hy=>h y (by simp[hy])
  rw[GX,if_neg h1,ih]
  show _=GX (l.drop k) (o+len (x.flat++AF (l.take k))) n F
  rw[AJ,Int.add_assoc]
theorem xR{t:Tf}{k:Nat}{n:A1}{F:Tf->Int×Bool}(hk:k<t.ps.length)(hno: ∀x∈t.ps.take k,x.t.name≠n)(hn:(at' t.ps (k:Int)).t.name=n):
  GX t.ps 1 n F=if(F (at' t.ps (k:Int))).2=true then(CR t k+(F (at' t.ps (k:Int))).1,true)else(0,false):=by
 obtain⟨h1,h2⟩:=FP t.ps (i:=(k:Int)) (by omega) (by unfold len;omega)
 have e:t.ps.drop k=at' t.ps (k:Int)::t.ps.drop (k+1):=by
  rw[h2,List.drop_eq_getElem_cons hk];simp
 rw[Y7 hno,e,GX,if_pos hn];rfl
theorem xS{t:Tf}{n:A1}{F:Tf->Int×Bool}(hno: ∀x∈t.ps.take t.ps.length,x.t.name≠n):GX t.ps 1 n F=(0,false):=by
 rw[Y7 hno,List.drop_length];rfl
theorem iL{α:Type}(s:α)(p:List α):Eng.sub (s::p) 1 (len (s::p))=p:=by
 unfold Eng.sub len
 rw[show((1:Int).toNat)=1 from rfl,List.drop_succ_cons,List.drop_zero]
 exact List.take_of_length_le (by simp)
theorem xT{t:Tf}{k:Nat}{n:A1}(hk:k<t.ps.length)(hno: ∀x∈t.ps.take k,x.t.name≠n)(h:(at' t.ps (k:Int)).t.name≠n): ∀x∈t.ps.take (k+1),x.t.name≠n:=by
 obtain⟨h1,h2⟩:=FP t.ps (i:=(k:Int)) (by omega) (by unfold len;omega)
 rw[h2]at h
 intro x hx
 rw[List.take_add_one]at hx
 rcases List.mem_append.1 hx with hx|hx
 ·exact hno x hx
 ·simp[hk]at hx;subst hx;simpa using h
end Go.Eng
namespace Go.Proofs.YtmjpjbmeamnfpaaGreatDoor
open Go.Eng
theorem xU(v:Value)(f:Fl)(i:Int)(u:Tf)(R:Fl){w:World}{M:Mem}(hM:Sat w M)(hl:(CJ v f).ok M)(h:D9 f i [u] R)(hi:i<=len f)(hb:len f<=1099511627776):
    Calls Tryz.prog 306 [v,i64 i].toArray w λ e w'=>e= .returned (i64 (i+len u.flat))/\Ext w w':=by
 have hi0:=h.1
 have hul:=u.FM
 have hul2:=h.KZ hi
 have e1:AF [u]=u.flat:=by show u.flat++AF []=_;simp[AF]
 rw[e1]at hul2
 have hR0:=AA R
 refine AX (Hr:=[]) AT Tryz.func306 U Tryz.ntmps306 [(0,CJ v f)] [] [.sl 0 v,I i] U (St.start hM) (BW hl A7) (λ B hB=>?_) U
 refine E4 (σ:=Int×Int×List Tf) (λ(tz,lf,st)=>⟨[(0,CJ v f)],[],[Z 0 (.sl 0 v),Z 1 (I tz),Z 4 (I 0),Z 5 (I lf)]⟩) (λ(tz,lf,st)=>D9 f tz st R/\lf=len st/\i<=tz/\tz<=len f) (λ(tz,lf,st)=>(len f-tz).toNat) (i,1,[u]) U (A0 U) (by omega) U ⟨h,rfl,by omega,by omega⟩ ?_
 rintro⟨tz,lf,st⟩ ⟨hto,hlf,hit,htl⟩
 have q6:=AA R
 refine A8 U (A0 U) (by omega) (λ hb2=>?_) (λ hb2=>?_)<;>simp only[zb]at hb2
 ·cases st with
   |nil=>rw[len_nil]at hlf;omega
   |cons u st=>
    obtain⟨q1,q2,q3⟩:=hto.step
    have q4:=q3.KZ (by omega)
    have q5:=SL (u.ps++st)
    have q7:(at' f tz).many=len u.ps:=by rw[q2]
    rw[AJ]at q5
    rw[AL]at hlf
    have q8:=AA u.ps
    have q9:=AA st
    have q0:=hto.1
    exact DJ (tz+1,lf+((at' f tz).many-1),u.ps++st) U (A0 U) (by simp only[zb]<;>omega) U ⟨q3,by rw[AJ];omega,by omega,by omega⟩ (by show Int.toNat _<Int.toNat _;omega)
 have hse:st=[]:=by
  have:=AA st
  cases st with
  |nil=>rfl
  |cons u st=>have:=AA st;rw[AL]at hlf;omega
 subst hse
 have q4:=hto.KZ htl
 have e2:len (AF [])=0:=rfl
 have hte:tz=i+len u.flat:=by omega
 subst hte
 exact AE hB U U (A0 U) (by omega) U (A0 U) λ w M hX=>⟨rfl,hX.st.low⟩
theorem xV{w0 w:World}{M0 M:Mem}{y1:HO}{Rs:List HO}{b:Nat}{v:Value}{t:Tf}(hl:(CJ v t.flat).ok M)(hb:len t.flat<=1099511627776)(hk1:t.t.op≠1):
    iI Tryz.prog 305 [.pointer (some ⟨b,0,none⟩)] t.ps.length w0 M0 (y1:: .box b [v] 36::Rs)
      (λ k (_:Unit)=>[I (CR t k),I (CR t (k+1))]) (λ _ _=>True) (λ _ _=>[]) w M:=by
 intro γ ub I' J Hy Fy l g0 ⟨x1,x2,x3,x4,x5,hx⟩ hS hF hI hy
 have hS2:St w0 M0 w M (.box b [v] 36::x1 g0::x2 g0::x3 g0::x4 g0::x5 g0::(y1::Rs)):=by
  rw[hx]at hS
  exact hS.perm (List.perm_middle (l₁:=[x1 g0,x2 g0,x3 g0,x4 g0,x5 g0,y1])).symm
 have hmny:=t.pK
 have hpos:=t.FM
 have hps:=SL t.ps
 have hpl:len t.flat=1+len (AF t.ps):=by rw[Tf.HS,AL];omega
 have hln:len t.ps=(t.ps.length:Int):=rfl
 have hop:(at' t.flat 0).op=t.t.op:=by rw[Tf.SK]
 refine pC (Hr:=y1::Rs) AT Tryz.func305 rfl Tryz.ntmps305 rfl (λ w h=>by obtain⟨g,M',h,_⟩:=h;cases h) [(0,CJ v t.flat),(9,W4 (Fy g0))] [(0,.box b [.sl 0 v] 36),(1,.ho (x1 g0)),(2,.ho (x2 g0)),(3,.ho (x3 g0)),(4,.ho (x4 g0)),(5,.ho (x5 g0))] [.v (.func (.yield l) #[] #[]),.bx 0 b 0] rfl hS2 (BW hl (BW ⟨Sl.nil M 1,DC,hF⟩ A7)) (λ B hB=>?_) rfl
 refine E4 (σ:=Int×Nat×γ) (λ(i,k,g)=>⟨[(0,CJ v t.flat),(9,W4 (Fy g))],[(0,.box b [.sl 0 v] 36),(1,.ho (x1 g)),(2,.ho (x2 g)),(3,.ho (x3 g)),(4,.ho (x4 g)),(5,.ho (x5 g))],[Z 0 (.v (.func (.yield l) #[] #[])),Z 1 (.bx 0 b 0),Z 3 (I i),Z 8 (I (at' t.flat 0).many),Z 9 (I k)]⟩) (λ(i,k,g)=>i=CR t k/\k<=t.ps.length/\I' k g) (λ(i,k,g)=>t.ps.length-k) (1,0,g0) U (A0 U) (by simp only[zb]<;>omega) U ⟨rfl,Nat.zero_le _,hI⟩ ?_
 rintro⟨i,k,g⟩ ⟨hi,hk,hIk⟩
 have hpk:=QA t k
 refine A8 U (A0 U) (by simp only[zb]<;>omega) (λ hb1=>?_) (λ hb1=>?_)<;>simp only[zb]at hb1
 ·have hk2:k<t.ps.length:=by omega
  have hpk2:=QA t (k+1)
  have hst:=Y6 hk2
  subst hi
  refine BG U (A0 U) (by omega) Tryz.call306 U U (A0 U) (λ _ w M hX=>xU v t.flat (CR t k) _ _ hX.st.sat (hX.f.get (k:=0) U) ((TM t k).next hk2) (by omega) hb) U ?_
  rw[<-hst]
  refine KJ (.v (.bool true)) U (A0 U) (by omega) U (λ hb2=>?_) (λ hb2=>?_)
  ·refine xN (λ g'=>[(1,.ho (x1 g')),(2,.ho (x2 g')),(3,.ho (x3 g')),(4,.ho (x4 g')),(5,.ho (x5 g'))]) ub [1,2,3,4,5] (γ:=γ) (pu:=λ g=>if ub g=true then I' (k+1) g else J g) (Fg:=λ g'=>[(9,W4 (Fy g'))]) (Hg:=Hy) [9] U (A0 U) (by simp only[zb]<;>omega) U (NG hb2 U) U U (TN hb2 (by simp)) U (λ w' M' hS' hF' hle=>?_) (λ g'=>by rw[hx];rfl) λ g' hg'=>?_
   ·have hp:(Hy g++(y1:: .box b [v] 36::Rs)).Perm (x1 g::x2 g::x3 g::x4 g::x5 g:: .box b [v] 36::y1::Rs):=by
     rw[hx]
     exact((((((List.Perm.swap _ _ _).cons _).cons _).cons _).cons _).cons _)
    obtain⟨fn,tt',asg,bd,e1,e2⟩:=hy k g () w' M' hk2 hIk trivial (hS'.perm hp) hle (λ x h=>by cases h) (hF'.get (k:=9) rfl).more
    refine⟨fn,tt',asg,bd,e1,e2.mono λ e w2 h=>?_⟩
    obtain⟨g',M2,r1,r2,r3,r4,r5⟩:=h
    refine⟨g',M2,r1,r2,r3,?_,BW ⟨Sl.nil M2 1,DC,r5⟩ A7⟩
    exact r4.perm (List.Perm.append_left _ (List.Perm.swap _ _ _))
   ·refine A8 U (TN hb2 (by simp[hop,hk1])) (by omega) (λ hb3=>?_) (λ hb3=>?_)<;>simp only[zb]at hb3
    ·rw[if_neg (by rw[hb3.2];decide)]at hg'
     refine AE hB U U (TN hb2 (by simp[hop,hk1])) (by omega) U (A0 U) λ w' M' hX=>⟨g',M',rfl,.inr hg',hX.le,?_,(hX.f.get (k:=9) U).more⟩
     refine hX.st.perm ?_
     rw[hx]
     exact List.Perm.append_left [x1 g',x2 g',x3 g',x4 g',x5 g'] (List.Perm.swap _ _ _)
    ·rw[if_pos (hb3.resolve_left (by rw[hop];exact hk1))]at hg'
     exact DJ (CR t (k+1),k+1,g') U (TN hb2 (by simp[hop,hk1])) (by simp only[zb]<;>omega) U ⟨rfl,hk2,hg'⟩ (by show t.ps.length-(k+1)<t.ps.length-k;omega)
  ·rw[hop]at hb2;simp[hk1]at hb2
 ·have hk3:k=t.ps.length:=by omega
  refine P1 hB U U (A0 U) (by omega) λ w' M' hX=>⟨g,M',rfl,.inl (by rw[<-hk3];exact hIk),hX.le,?_,(hX.f.get (k:=9) U).more⟩
  refine hX.st.perm ?_
  rw[hx]
  exact List.perm_middle (l₁:=[x1 g,x2 g,x3 g,x4 g,x5 g,y1])
theorem xW{w0 wv:World}{M0 M:Mem}{Rs:List HO}{v:Value}{t:Tf}(hS:St w0 M0 wv M Rs)(hl:(CJ v t.flat).ok M):
  Calls Tryz.prog 289 [v].toArray wv (CM w0 M0 M Rs (λ b:Nat=>.func (.func 305) #[] #[.pointer (some ⟨b,0,none⟩)]) (λ _=>True) (λ _=>[]) λ b=>[.box b [v] 36]):=by
 refine AX (Hr:=Rs) AT Tryz.func289 U Tryz.ntmps289 [(0,CJ v t.flat)] [] [.sl 0 v] U hS (BW hl A7) (λ B hB=>?_) U
 refine F7 1 U (A0 U) (by omega) U U (A0 U) λ b=>?_
 refine CZ (.v (.func (.func 305) #[] #[.pointer (some ⟨b,0,none⟩)])) U (A0 U) (by omega) U (λ w M hX=>PV.makeFunc (xs:=[]) (ys:=[.tmp 1]) (vs:=[]) (us:=[.pointer (some ⟨b,0,none⟩)]) trivial ⟨AI (v:=.bx 1 b 0) (E:=[]) U (A0 U),trivial⟩) ?_
 exact AE hB rfl rfl (A0 rfl) (by omega) rfl (A0 rfl) λ w' M' hX=>⟨b,M',rfl,trivial,hX.le,hX.st,λ x h=>by cases h⟩
theorem xX: ∀(p:List Sp) {w0 wv:World} {M0 M:Mem} {Rs:List HO} (v u:Value) (t:Tf),St w0 M0 wv M Rs->(CJ v t.flat).ok M->(kn u 3 p Sp.cells).ok M->len t.flat<=1099511627776->len p<=1099511627776->
    Calls Tryz.prog 259 [v,u].toArray wv (CM w0 M0 M Rs (λ _:Unit=>.tuple #[i64 (DB p t).1,.bool (DB p t).2]) (λ _=>True) (λ _=>[]) λ _=>[]):=by
 intro p
 induction p with
 |nil=>
  intro w0 wv M0 M Rs v u t hS hl hu hb hbp
  have hpos:=t.FM
  refine aT (Hr:=Rs) AT Tryz.func259 U Tryz.ntmps259 [(0,CJ v t.flat),(1,kn u 3 [] Sp.cells)] [] [.sl 0 v,.sl 1 u] U hS (BW hl (BW hu A7)) (λ B hB=>?_) U
  refine F7 2 U (A0 U) (by omega) U U (A0 U) λ b2=>?_
  refine F7 3 U (A0 U) (by omega) U U (A0 U) λ b3=>?_
  refine CI 4 U (A0 U) (by omega) Tryz.zeroValue3 U λ b4=>?_
  refine CI 5 U (A0 U) (by omega) Tryz.zeroValue4 U λ b5=>?_
  refine A8 U (A0 U) (by omega) (λ hb1=>?_) (λ hb1=>?_)<;>simp only[zb]at hb1
  ·refine KY [5,6] 3 (λ _ _ _ _ _ h=>h) U (A0 U) (by omega) EU (by decide+kernel) ?_
   refine CO 5 U (A0 U) (by omega) U U ?_
   refine C6 U (A0 U) (by omega) ?_
   refine CO 6 U (A0 U) (by omega) U U ?_
   refine C6 U (A0 U) (by omega) ?_
   refine HQ U (A0 U) (by omega) U U ?_
   exact AE hB.ends U U (A0 U) (by omega) U (A0 U) λ w M' hX=>⟨(),M',by rw[Tf.SK];rfl,trivial,hX.le,hX.st.drop _ cF,A7⟩
  ·exfalso;exact hb1 U
 |cons s p ih=>
  intro w0 wv M0 M Rs v u t hS hl hu hb hbp
  have hpos:=t.FM
  have hp0:=AA p
  rw[AL]at hbp
  have hsp:at' (s::p) 0=s:=rfl
  refine aT (Hr:=Rs) AT Tryz.func259 U Tryz.ntmps259 [(0,CJ v t.flat),(1,kn u 3 (s::p) Sp.cells)] [] [.sl 0 v,.sl 1 u] U hS (BW hl (BW hu A7)) (λ B hB=>?_) U
  refine F7 2 U (A0 U) (by omega) U U (A0 U) λ b2=>?_
  refine F7 3 U (A0 U) (by omega) U U (A0 U) λ b3=>?_
  refine CI 4 U (A0 U) (by omega) Tryz.zeroValue3 U λ b4=>?_
  refine CI 5 U (A0 U) (by omega) Tryz.zeroValue4 U λ b5=>?_
  have hlc:len (s::p)=len p+1:=AL s p
  refine A8 U (A0 U) (by omega) (λ hb1=>?_) (λ hb1=>?_)<;>simp only[zb]at hb1
  ·exfalso;omega
  refine A8 U (A0 U) (by omega) (λ hb2=>?_) (λ hb2=>?_)<;>simp only[zb]at hb2<;>rw[Tf.SK,hsp]at hb2
  ·have e:DB (s::p) t=(0,false):=by unfold DB;rw[if_pos hb2]
   exact AE hB.ends U U (A0 U) (by omega) U (A0 U) λ w M' hX=>⟨(),M',by rw[e];rfl,trivial,hX.le,hX.st.drop _ cF,A7⟩
  have hop:t.t.op=2:=hb2.1
  have eL:DB (s::p) t=GX t.ps 1 s.name (DB p):=by rw[DB,if_neg (by rintro(q|q);exact q hb2.1;rw[hb2.2]at q;cases q)]
  refine B6 [] (λ b:Nat=>.v (.func (.func 305) #[] #[.pointer (some ⟨b,0,none⟩)])) [] (λ b=>[(6,.box b [.sl 0 v] 36)]) U (A0 U) (by omega) U Tryz.call289 U U (A0 U) U (λ w M hS hF=>xW hS (hF.get (k:=0) U)) (λ _=>rfl) (λ _=>rfl) λ b6 _=>?_
  refine S1 [6] U U ?_
  obtain⟨Sf,hSf⟩: ∃Sf:Int×Bool->XS,Sf=λ g=>⟨[(0,CJ v t.flat),(1,kn u 3 (s::p) Sp.cells)],[(2,.box b2 [.sl 0 v] 36),(3,.box b3 [.sl 1 u] 70),(4,.box b4 [I g.1] 3),(5,.box b5 [.v (.bool g.2)] 4)],[Z 2 (.bx 2 b2 0),Z 3 (.bx 3 b3 0),Z 4 (.bx 4 b4 0),Z 5 (.bx 5 b5 0)]⟩:=⟨_,rfl⟩
  refine xM (σ:=Int×Bool) (τ:=Unit) (λ g=>⟨[(0,CJ v t.flat),(1,kn u 3 (s::p) Sp.cells)],[(2,.box b2 [.sl 0 v] 36),(3,.box b3 [.sl 1 u] 70),(4,.box b4 [I g.1] 3),(5,.box b5 [.v (.bool g.2)] 4)],[Z 2 (.bx 2 b2 0),Z 3 (.bx 3 b3 0),Z 4 (.bx 4 b4 0),Z 5 (.bx 5 b5 0)]⟩)
    (λ k g=>g=(0,false)/\ ∀x∈t.ps.take k,x.t.name≠s.name) (λ g=>g=GX t.ps 1 s.name (DB p)) (0,false)
    (λ k g y=>⟨[(0,CJ v t.flat),(1,kn u 3 (s::p) Sp.cells)],[(2,.box b2 [.sl 0 v] 36),(3,.box b3 [.sl 1 u] 70),(4,.box b4 [I g.1] 3),(5,.box b5 [.v (.bool g.2)] 4)],[Z 6 (I (CR t k)),Z 7 (I (CR t (k+1))),Z 2 (.bx 2 b2 0),Z 3 (.bx 3 b3 0),Z 4 (.bx 4 b4 0),Z 5 (.bx 5 b5 0)]⟩)
    (λ _ _ _ _ h=>h) U (A0 U) (by omega) U (A0 U) Tryz.call305 U ⟨rfl,λ x hx=>by simp at hx⟩ (λ _=>rfl) ⟨_,_,_,_,λ _=>rfl⟩ (λ w M D w' hX=>xV (hX.f.get (k:=0) U) hb (by rw[hop];decide)) (λ _ _=>rfl)
    (λ k g y l D r M hk hI hp=>?_) U (λ k g y l D r M hk hI hp=>?_) U (λ D g a w hI=>?_) (λ D g a w hJ=>?_)
  ·exact BB _ U (A0 U) (by omega) U U
  ·obtain⟨rfl,hno⟩:=hI
   have hpk:=QA t k
   have hpk2:=QA t (k+1)
   have hst:=Y6 hk
   have hcp:=(at' t.ps (k:Int)).FM
   obtain⟨hrt,hrl⟩:=xQ hk
   refine iH [] 1 U (A0 U) (by omega) EU (by decide+kernel) ?_
   refine HQ U (A0 U) (by omega) U U ?_
   refine Y4 ?_
   refine A8 U (A0 U) (by omega) (λ hb3=>?_) (λ hb3=>?_)<;>simp only[zb]at hb3<;>rw[hrt,hsp]at hb3
   ·have hsub:=xP hk
    have hcb:=iK p (at' t.ps (k:Int))
    have hla:=xR (F:=DB p) hk hno hb3
    refine iH [3,5,6,10,11] 6 U (A0 U) (by omega) EU (by decide+kernel) ?_
    refine bZ 3 5 U (A0 U) (by omega) U U ?_ ?_
    ·refine OY (gd:=none) 8 (CR t k) (CR t (k+1)) U (A0 U) (by omega) U (A0 U) U ⟨.i64,_,rfl,A0 U⟩ ⟨.i64,_,rfl,A0 U⟩ Tryz.underlying36 Tryz.sizeOf48 (by omega) U U λ v8=>?_
     rw[hsub]
     refine C6 U (A0 U) (by omega) ?_
     refine CO 5 U (A0 U) (by omega) U U ?_
     refine OY (gd:=none) 9 1 (len (s::p)) U (A0 U) (by omega) U (A0 U) U ⟨.i64,_,rfl,A0 U⟩ U Tryz.underlying70 Tryz.sizeOf68 (by omega) U U λ v9=>?_
     rw[iL]
     refine C6 U (A0 U) (by omega) ?_
     refine CO 6 U (A0 U) (by omega) U U ?_
     refine B6 [] (λ _:Unit=>.tu [I (DB p (at' t.ps (k:Int))).1,.v (.bool (DB p (at' t.ps (k:Int))).2)]) [] (λ _=>[]) (Fg:=λ _=>[]) U (A0 U) (by omega) U Tryz.call259 U U (A0 U) U (λ w M hS hF=>ih v8 v9 (at' t.ps (k:Int)) hS (hF.get (k:=8) U) (hF.get (k:=9) U) (by omega) (by omega)) (λ _=>rfl) (λ _=>rfl) λ _ _=>?_
     refine C6 U (A0 U) (by omega) ?_
     refine CO 10 U (A0 U) (by omega) U U ?_
     refine C6 U (A0 U) (by omega) ?_
     refine CO 11 U (A0 U) (by omega) U U ?_
     refine C6 U (A0 U) (by omega) ?_
     refine HQ U (A0 U) (by omega) U U ?_
     refine Y4 ?_
     refine A8 U (A0 U) (by omega) (λ hb4=>?_) (λ hb4=>?_)<;>simp only[zb]at hb4
     ·rw[if_neg (by rw[hb4];decide)]at hla
      exact TL _ U (A0 U) (by omega) U ⟨(0,false),rfl,hla.symm⟩
     ·rw[if_pos hb4]at hla
      exact TL _ U (A0 U) (by omega) U ⟨(CR t k+(DB p (at' t.ps (k:Int))).1,true),rfl,hla.symm⟩
    ·refine OY (gd:=none) 9 1 (len (s::p)) U (A0 U) (by omega) U (A0 U) U ⟨.i64,_,rfl,A0 U⟩ U Tryz.underlying70 Tryz.sizeOf68 (by omega) U U λ v9=>?_
     rw[iL]
     refine C6 U (A0 U) (by omega) ?_
     refine CO 3 U (A0 U) (by omega) U U ?_
     refine OY (gd:=none) 8 (CR t k) (CR t (k+1)) U (A0 U) (by omega) U (A0 U) U ⟨.i64,_,rfl,A0 U⟩ ⟨.i64,_,rfl,A0 U⟩ Tryz.underlying36 Tryz.sizeOf48 (by omega) U U λ v8=>?_
     rw[hsub]
     refine C6 U (A0 U) (by omega) ?_
     refine CO 6 U (A0 U) (by omega) U U ?_
     refine B6 [] (λ _:Unit=>.tu [I (DB p (at' t.ps (k:Int))).1,.v (.bool (DB p (at' t.ps (k:Int))).2)]) [] (λ _=>[]) (Fg:=λ _=>[]) U (A0 U) (by omega) U Tryz.call259 U U (A0 U) U (λ w M hS hF=>ih v8 v9 (at' t.ps (k:Int)) hS (hF.get (k:=8) U) (hF.get (k:=9) U) (by omega) (by omega)) (λ _=>rfl) (λ _=>rfl) λ _ _=>?_
     refine C6 U (A0 U) (by omega) ?_
     refine CO 10 U (A0 U) (by omega) U U ?_
     refine C6 U (A0 U) (by omega) ?_
     refine CO 11 U (A0 U) (by omega) U U ?_
     refine C6 U (A0 U) (by omega) ?_
     refine HQ U (A0 U) (by omega) U U ?_
     refine Y4 ?_
     refine A8 U (A0 U) (by omega) (λ hb4=>?_) (λ hb4=>?_)<;>simp only[zb]at hb4
     ·rw[if_neg (by rw[hb4];decide)]at hla
      exact TL _ U (A0 U) (by omega) U ⟨(0,false),rfl,hla.symm⟩
     ·rw[if_pos hb4]at hla
      exact TL _ U (A0 U) (by omega) U ⟨(CR t k+(DB p (at' t.ps (k:Int))).1,true),rfl,hla.symm⟩
   ·exact BB _ U (A0 U) (by omega) U ⟨(0,false),rfl,rfl,xT hk hno hb3⟩
  ·obtain⟨rfl,hno⟩:=hI
   have e:=xS (F:=DB p) hno
   refine nK 8 (λ _ _ _ _ h=>h) U (s:=⟨[(0,CJ v t.flat),(1,kn u 3 (s::p) Sp.cells)],[(2,.box b2 [.sl 0 v] 36),(3,.box b3 [.sl 1 u] 70),(4,.box b4 [I 0] 3),(5,.box b5 [.v (.bool false)] 4)],[Z 2 (.bx 2 b2 0),Z 3 (.bx 3 b3 0),Z 4 (.bx 4 b4 0),Z 5 (.bx 5 b5 0)]⟩) ?_ a w
   refine xO hB U U (A0 U) (by omega) U U (A0 U) λ w' M' hS' hF' hle=>⟨(),M',by rw[eL,e];rfl,trivial,hle,hS'.drop _ (List.sublist_append_right [_,_,_,_,_] _),A7⟩
  ·rintro hs ⟨M',h1,h2,h3⟩
   subst hJ
   show B .ret (CB (GK D) a) w
   refine hB.leave AT h1 hs U U (A0 U) λ w' h=>⟨(),M',by rw[eL];rfl,trivial,h3,h.drop _ (List.sublist_append_right [_,_,_,_,_] _),A7⟩
end Go.Proofs.YtmjpjbmeamnfpaaGreatDoor
set_option maxRecDepth 100000
namespace Go.Eng
def EZ(t:Tm):Tm:=⟨t.op,t.many,t.name,[],0,B2⟩
def I0(t:Tm):Bool×Tm:=
 if t.op=0 then(t.many==0,EZ t)
 else if t.op=1 then(decide (0<=t.many)&&decide (0<t.n)&&decide (t.n<=31),{ EZ t with n:=t.n})
 else if t.op=9 then(t.many==0&&Y3 t.n t.c,{ EZ t with n:=t.n,c:=t.c})
 else if t.op=2 then(decide (0<=t.many)&&decide (0<=t.n)&&decide (t.n<=1),{ EZ t with n:=t.n})
 else if t.op=4 then(decide (0<=t.many),EZ t)
 else if t.op=3\/t.op=5\/t.op=6 then(t.many==1,EZ t)
 else if t.op=7\/t.op=8 then((HC t.s).2&&t.many==1,{ EZ t with s:=t.s})
 else(false,EZ t)
def MI(t:Tm):Bool:=(I0 t).1&&decide (t=(I0 t).2)
end Go.Eng
namespace Go.Proofs.YtmjpjbmeamnfpaaGreatDoor
open Go.Eng
abbrev MJ(t:Tm):List XV:=[I t.op,I t.many,.v (str t.name),.v (str t.s),I t.n,I t.c.kind,I t.c.many,.v (str t.c.name),.v (str t.c.s),.v (.bool t.c.neg),I t.c.e]
abbrev xY(t:Tm):Value:=.agg #[i64 t.op,i64 t.many,str t.name,str t.s,i64 t.n,i64 t.c.kind,i64 t.c.many,str t.c.name,str t.c.s,.bool t.c.neg,i64 t.c.e]
abbrev Y8(t:Tm):XV:=.ag [I t.op,I t.many,.v (str t.name),.v (str t.s),I t.n,I t.c.kind,I t.c.many,.v (str t.c.name),.v (str t.c.s),.v (.bool t.c.neg),I t.c.e]
theorem xZ(t:Tm)(w:World)(M:Mem)(hM:Sat w M)(hg:Gl w)(ht:t.small):Calls Tryz.prog 256 [xY t].toArray w λ e w'=>e= .returned (.bool (MI t))/\Ext w w':=by
 obtain⟨hn1,hs1,hc1⟩:=ht
 refine AX (Hr:=[]) AT Tryz.func256 U Tryz.ntmps256 [] [] [Y8 t] U (St.start hM) A7 (λ B hB=>?_) U
 refine F7 1 U (A0 U) (by omega) U U (A0 U) λ b1=>?_
 refine CI 3 U (A0 U) (by omega) Tryz.zeroValue48 U λ b3=>?_
 refine HL 1 (λ s=> ∃(ok:Bool) (y:Tm),I0 t=(ok,y)/\s=⟨[],[(1,.box b1 (MJ t) 48),(3,.box b3 (MJ y) 48)],[Z 1 (.bx 1 b1 0),Z 3 (.bx 3 b3 0),Z 4 (.v (.bool ok))]⟩) U (A0 U) (by omega) U (λ h0=>?_) (λ h0=>?_) ?_
 ·simp only[zb]at h0
  exact BB _ U (A0 U) (by omega) U ⟨_,EZ t,by unfold I0;rw[if_pos h0],rfl⟩
 ·simp only[zb]at h0
  refine A8 U (A0 U) (by omega) (λ h1=>?_) (λ h1=>?_)<;>simp only[zb]at h1
  ·exact BB _ U (A0 U) (by omega) U ⟨_,{ EZ t with n:=t.n},by unfold I0;rw[if_neg h0,if_pos h1],rfl⟩
  refine A8 U (A0 U) (by omega) (λ h9=>?_) (λ h9=>?_)<;>simp only[zb]at h9
  ·refine KY [5,7] 3 (λ _ _ _ _ _ h=>h) U (A0 U) (by omega) EU (by decide+kernel) ?_
   refine CO 5 U (A0 U) (by omega) U U ?_
   refine C6 U (A0 U) (by omega) ?_
   refine CO 7 U (A0 U) (by omega) U U ?_
   refine C6 U (A0 U) (by omega) ?_
   refine HQ U (A0 U) (by omega) U U ?_
   refine BG U (A0 U) (by omega) Tryz.call284 U U (A0 U) (λ _ w M hX=>xI t.n t.c w M hX.st.sat (hg.low hX.st.low) hc1) U ?_
   exact BB _ U (A0 U) (by omega) U ⟨_,{ EZ t with n:=t.n,c:=t.c},by unfold I0;rw[if_neg h0,if_neg h1,if_pos h9],rfl⟩
  refine A8 U (A0 U) (by omega) (λ h2=>?_) (λ h2=>?_)<;>simp only[zb]at h2
  ·exact BB _ U (A0 U) (by omega) U ⟨_,{ EZ t with n:=t.n},by unfold I0;rw[if_neg h0,if_neg h1,if_neg h9,if_pos h2],rfl⟩
  refine A8 U (A0 U) (by omega) (λ h4=>?_) (λ h4=>?_)<;>simp only[zb]at h4
  ·exact BB _ U (A0 U) (by omega) U ⟨_,EZ t,by unfold I0;rw[if_neg h0,if_neg h1,if_neg h9,if_neg h2,if_pos h4],rfl⟩
  refine HL 0 (λ s=> ∃b:Bool,(b=true↔(t.op=3\/t.op=5\/t.op=6))/\s=⟨[],[(1,.box b1 (MJ t) 48),(3,.box b3 (MJ (EZ t)) 48)],[Z 1 (.bx 1 b1 0),Z 3 (.bx 3 b3 0),Z 4 (.v (.bool false)),Z 15 (I t.op),Z 81 (.v (.bool b))]⟩) U (A0 U) (by omega) U (λ h3=>?_) (λ h3=>?_) ?_
  ·exact BB _ U (A0 U) (by omega) U ⟨_,by simp only[zb]at h3 ⊢;omega,rfl⟩
  ·refine A8 U (A0 U) (by omega) (λ h5=>?_) (λ h5=>?_)
   ·exact BB _ U (A0 U) (by omega) U ⟨_,by simp only[zb]at h5 ⊢;omega,rfl⟩
   ·exact BB _ U (A0 U) (by omega) U ⟨_,by simp only[zb]at h3 h5 ⊢;omega,rfl⟩
  rintro _ ⟨b,hbk,rfl⟩
  refine A8 U (A0 U) (by omega) (λ hf=>?_) (λ hf=>?_)
  ·exact BB _ U (A0 U) (by omega) U ⟨_,EZ t,by unfold I0;rw[if_neg h0,if_neg h1,if_neg h9,if_neg h2,if_neg h4,if_pos (hbk.1 hf)],rfl⟩
  have h356: ¬(t.op=3\/t.op=5\/t.op=6):=λ e=>by have:=hbk.2 e;rw[hf]at this;cases this
  clear hbk hf
  refine HL 0 (λ s=> ∃b:Bool,(b=true↔(t.op=7\/t.op=8))/\s=⟨[],[(1,.box b1 (MJ t) 48),(3,.box b3 (MJ (EZ t)) 48)],[Z 1 (.bx 1 b1 0),Z 3 (.bx 3 b3 0),Z 4 (.v (.bool false)),Z 88 (.v (.bool b))]⟩) U (A0 U) (by omega) U (λ h3=>?_) (λ h3=>?_) ?_
  ·exact BB _ U (A0 U) (by omega) U ⟨_,by simp only[zb]at h3 ⊢;omega,rfl⟩
  ·exact BB _ U (A0 U) (by omega) U ⟨_,by simp only[zb]at h3 ⊢;omega,rfl⟩
  rintro _ ⟨b,hbk,rfl⟩
  refine A8 U (A0 U) (by omega) (λ hf=>?_) (λ hf=>?_)
  ·refine B6 [] (λ u:Value=>.tu [.sl 6 u,.v (.bool (HC t.s).2)]) [6] (λ _=>[]) (Fg:=λ u=>[(1,kn u 3 (HC t.s).1 Sp.cells)]) U (A0 U) (by omega) U Tryz.call258 U U (A0 U) U (λ w M hS hF=>iF t.s hS hg (by omega)) (λ _=>rfl) (λ _=>rfl) λ u _=>?_
   exact BB _ U (A0 U) (by omega) U ⟨_,{ EZ t with s:=t.s},by unfold I0;rw[if_neg h0,if_neg h1,if_neg h9,if_neg h2,if_neg h4,if_neg h356,if_pos (hbk.1 hf)],rfl⟩
  have h78: ¬(t.op=7\/t.op=8):=λ e=>by have:=hbk.2 e;rw[hf]at this;cases this
  exact BB _ U (A0 U) (by omega) U ⟨_,EZ t,by unfold I0;rw[if_neg h0,if_neg h1,if_neg h9,if_neg h2,if_neg h4,if_neg h356,if_neg h78],rfl⟩
 rintro _ ⟨ok,y,hok,rfl⟩
 refine CZ (.v (.bool (decide (t=y)))) U (A0 U) (by omega) U (λ w M hX=>PV.bin (AI (v:=Y8 t) U (A0 U)) (AI (v:=Y8 y) U (A0 U)) (λ _ w _=>wU _ _ _ _ w)) ?_
 refine AE hB U U (A0 U) (by omega) U (A0 U) λ w M hX=>⟨?_,hX.st.low⟩
 unfold MI;rw[hok];rfl
end Go.Proofs.YtmjpjbmeamnfpaaGreatDoor
