/- Lemmas for the card. -/
import Derived.Test.YtmjpjbmeamnfpaaGreatDoorZf19
set_option linter.unusedVariables false
set_option linter.unusedSimpArgs false
namespace Go.Eng
open Go.RowKit
def cw(c:Cx):Cx:= { c with W:=Wk.wide c.P}
section
variable {c:Cx} {B:Exit->Act->World->Prop} {k k':List Fr} {m:Md} {s s':XS} {O:Prop} {E:List Ck} {l:List Oper}
theorem AV5{a:Act}{w:World}(h:GY c s a w):GY (cw c) s a w:=let⟨h1,M,h2⟩:=h;⟨h1,M,h2.st,h2.f,h2.le⟩
theorem AV6{a:Act}{w:World}(h:GY (cw c) s a w):GY c s a w:=let⟨h1,M,h2⟩:=h;⟨h1,M,h2.st,h2.f,h2.le⟩
theorem pM(es:List Nat)(n:Nat){id:Nat}(h:run c.T c.N k m s=⟨k',.code (.region id ⟨l⟩ true),s',O,E⟩)(hE:AD E)(hO:O)(hm:c.P.follows .mixedOrders=true)(hB:(O5 l []&&ET (λ e=>Nat.blt e l.length) es)=true)(hn:DG (cw c) (post c B k') [] l es n [] [] [] [] s'):XG c B k m s:=by
 rw[Bool.and_eq_true]at hB
 exact CX h hE hO λ a w hs=>c.W.drawS (jO (c:=cw c) (B:=post c B k') (k:=[]) (id:=id) es n (λ _ _ _ _ _ h=>h) hm hB.1 hB.2 hn (AV5 hs))
theorem dM(h:XG c B k .next s):XG (cw c) (post c B k) [] .next s:=λ a w hs=>h a w (AV6 hs)
end
def dN(c:Cx)(Js:XS->Prop):Exit->Act->World->Prop
 | .ret,a,w=> ∃s,Js s/\GY c s a w
 |_,_,_=>False
theorem AV7{c:Cx}{Js:XS->Prop}: ¬LetsOut (dN c Js):=λ⟨_,_,h⟩=>h
theorem Y1{c:Cx}{k:List Fr}{m:Md}{s s':XS}{O:Prop}{E:List Ck}{Js:XS->Prop}(s2:XS)(h:run c.T c.N k m s=⟨[],.ret,s',O,E⟩)(hE:AD E)(hO:O)(h0:(⟨KZ s2.F s'.F,L0 s2.H s'.H,GZ (keys s2.L) s'.L⟩:XS)=s2)(hJ:Js s2):XG c (dN c Js) k m s:=
 CX h hE hO λ a w hs=>⟨s2,hJ,hs.sub (XS.RD h0)⟩
def pN(P:Program)(gf:FuncId)(lb:List Value)(n:Nat)(w0:World)(M0:Mem)(Rs:List HO){τ:Type}(av:Nat->τ->List XV)(pa:Nat->τ->Prop)(FA:Nat->τ->List (Nat×Kn))(w:World)(M:Mem):Prop:=
 ∀(γ:Type) (ub:γ->Bool) (I:Nat->γ->Prop) (J:γ->Prop) (Hy:γ->List HO) (Fy:γ->List (Nat×Kn)) (l:Nat) (g0:γ),(∃x1 x2 x3 x4 x5:γ->HO,∀g,Hy g=[x1 g,x2 g,x3 g,x4 g,x5 g])->St w0 M0 w M (Hy g0++Rs)->BF M (Fy g0)->I 0 g0->
  (∀k g y w' M',k<n->I k g->pa k y->St w0 M0 w' M' (Hy g++Rs)->M.le M'->BF M' (FA k y)->BF M' (Fy g)->
   jE P l ((av k y).map XV.d).toArray w' (DT w0 M0 M' Rs (λ g:γ=>.bool (ub g)) (λ g=>if ub g=true then I (k+1) g else J g) Fy Hy))->
  Calls P gf (.func (.yield l) #[] #[]::lb).toArray w (DT w0 M0 M Rs (λ _:γ=>.tuple #[]) (λ g=>I n g\/J g) Fy Hy)
theorem AV8{c:Cx}{B:Exit->Act->World->Prop}{k k':List Fr}{m:Md}{s s':XS}{O:Prop}{E:List Ck}{σ τ:Type}(Sf:σ->XS)(I:Nat->σ->Prop)(J:σ->Prop)(g0:σ){gop:Operand}{ps:List Tmp}{assign body:Code}{gf:FuncId}{lb:List Value}{n:Nat}{av:Nat->τ->List XV}{pa:Nat->τ->Prop}{FA:Nat->τ->List (Nat×Kn)}{E1:List Ck}(Sa:Nat->σ->τ->XS)
  (hw: ∀x Q a w,x.wp c.P Q a w->c.W.wp x Q a w) (h:run c.T c.N k m s=⟨k',.code (.rangeFunc gop ⟨ps⟩ assign body),s',O,E⟩) (hE:AD E) (hO:O)
  (hg:BZ s'.L .t gop=some (.v (.func (.func gf) #[] ⟨lb⟩),E1)) (hE1:AD E1) (ct:CT c.P gf)
  (h0:(⟨KZ (Sf g0).F s'.F,L0 (Sf g0).H s'.H,GZ (keys (Sf g0).L) s'.L⟩:XS)=Sf g0) (hI:I 0 g0) (hL: ∀g,(Sf g).L=(Sf g0).L)
  (hH: ∃x1 x2 x3 x4:σ->HO,∀g,HD (Sf g).H=[x1 g,x2 g,x3 g,x4 g]) (hit: ∀w M D w',E5 c s'.F s'.H w M->pN c.P gf lb n c.w0 c.M0 (.raw D EI::c.Hr) av pa FA w' M)
  (hps: ∀k y,RN c.N ps (av k y)=true)
  (ha: ∀k g y l D r M,k<n->I k g->pa k y->XG (cR c l D r M) nB [.loop (λ t=>t=Sa k g y)] (.code assign) ⟨FA k y++(Sf g).F,(Sf g).H,pz ps (av k y) (Sf g).L⟩) (hsa:DM assign=true)
  (hb: ∀k g y l D r M,k<n->I k g->pa k y->XG (cR c l D r M) (dN (cR c l D r M) (λ t=> ∃g',t=Sf g'/\J g')) [.loop (λ t=> ∃g',t=Sf g'/\I (k+1) g')] (.code body) (Sa k g y)) (hsb:DM body=true)
  (hn: ∀D g a w,I n g->AJ a c.N (Sf g).L.d->(∃M,St c.w0 c.M0 w M (HD (Sf g).H++(.raw D EI::c.Hr))/\BF M (Sf g).F/\c.M1.le M)->post c B k' .normal (DD [⟨.collected D,#[]⟩] a) w)
  (hr: ∀D g a w,J g->AJ a c.N (Sf g).L.d->(∃M,St c.w0 c.M0 w M (HD (Sf g).H++(.raw D EI::c.Hr))/\BF M (Sf g).F/\c.M1.le M)->post c B k' .ret (DD [⟨.collected D,#[]⟩] a) w):XG c B k m s:=by
 refine CX h hE hO λ a w hs=>?_
 obtain⟨hsl,M,hX⟩:=hs
 have hX0:=hX.sub (XS.RD h0)
 have hslL:=j7 hsl (XS.RD h0).1
 refine hw _ _ _ _ ((wpIn_wide (n:=1)).1 (wpIn_rangeFunc λ fn _=>?_))
 obtain⟨rec,hrec⟩: ∃rec:LoopState->Option Code->Loop,rec=λ st pe=> { state:=st,pending:=pe,fn,tmps:=a.tmps,params:=⟨ps⟩,assign,body,defers:=w.heap.size}:=⟨_,rfl⟩
 obtain⟨rc,hrc⟩: ∃rc:Bool->Obj,rc=λ b=>if b=true then .loop (rec .ready none)else .loop (rec .done (some .ret)):=⟨_,rfl⟩
 have hrt:rc true= .loop (rec .ready none):=by rw[hrc];rfl
 have hrf:rc false= .loop (rec .done (some .ret)):=by rw[hrc];rfl
 have hS1:=(hX0.st.P4 EI).P4 (rc true)
 rw[World.size_alloc]at hS1
 have hS2:=hS1.perm xR
 have hgv:a.eval gop= .func (.func gf) #[] ⟨lb⟩:=AN hg hE1 a c.N hsl U
 have pass: ∀(b:Bool) (x:Obj),∀ {A:List HO},(A++[HO.raw (w.heap.size+1) x])++(.raw w.heap.size EI::c.Hr)=A++(.raw (w.heap.size+1) x:: .raw w.heap.size EI::c.Hr):=λ _ _ _=>by simp
 refine⟨w.heap.size+1,[⟨.collected w.heap.size,#[]⟩],(w.alloc EI).alloc (rc true),⟨.fn (.func gf) ⟨lb⟩,#[.func (.yield (w.heap.size+1)) #[] #[]]⟩,(w.alloc EI).alloc (rc true),gf,
  (.func (.yield (w.heap.size+1)) #[] #[]::lb).toArray,(w.alloc EI).alloc (rc true),by rw[hrt,hrec];exact run_enterLoop_outer _ _ _ _ _,?_,λ _ _=>trivial,?_,(λ h=>by cases h),callsIn_wide.2 ?_⟩
 ·simp only[resolve,hgv]
  simp[go_sem]
 ·simp[invoke,go_sem,ct]
 ·obtain⟨x1,x2,x3,x4,hx⟩:=hH
  refine(hit w M _ _ hX (Bool×σ) (λ g=>g.1) (λ k g=>g.1=true/\I k g.2) (λ g=>g.1=false/\J g.2) (λ g=>HD (Sf g.2).H++[.raw (w.heap.size+1) (rc g.1)]) (λ g=>(Sf g.2).F) (w.heap.size+1) (true,g0)
   ⟨λ g=>x1 g.2,λ g=>x2 g.2,λ g=>x3 g.2,λ g=>x4 g.2,λ g=>.raw (w.heap.size+1) (rc g.1),λ g=>by rw[hx];rfl⟩ (by rw[pass true];exact hS2) hX0.f ⟨rfl,hI⟩ λ kk g y w' M' hk hIg hp hS hle hFA hF=>?_).mono ?_
  ·obtain⟨gb,g⟩:=g
   obtain⟨hgb,hIg⟩:=hIg
   dsimp only at hgb hIg hF
   subst hgb
   dsimp only at hS
   rw[pass true,hrt]at hS
   have hi:(HD (Sf g).H++(HO.raw (w.heap.size+1) (.loop (rec .ready none)):: .raw w.heap.size EI::c.Hr))[(HD (Sf g).H).length]? =some (.raw (w.heap.size+1) (.loop (rec .ready none))):=by simp
   have hl:=(hS.obj hi).2.1
   have hz:=jF ps (av kk y) (L:=(Sf g).L) (a:=a) (hps kk y) (by rw[hL];exact hslL)
   have hy:=run_yield (P:=c.P) (args:=((av kk y).map XV.d).toArray) hl (by rw[hrec];simp[jG (hps kk y)])
   refine⟨_,_,_,_,hy,roundIn_of_wpIn trivial ?_⟩
   have h1:=ha kk g y (w.heap.size+1) w.heap.size (.loop (rec .ready none)) M' hk hIg hp _ w' ⟨hz,M',hS,hFA.app hF,Mem.le.refl _⟩
   have h2:=h1 (W6 xQ) hsa
   rw[hrec]
   dsimp only
   refine wpIn_mono (F:=FR (some (w.heap.size+1))) (by simpa using h2) λ e a1 w1 q=>?_
   cases e with
   |normal=>
    obtain⟨sa,rfl,hsat⟩:=q
    obtain⟨hl1,hsat1⟩:=aJ (r':=.loop { rec .ready none with state:=.busy}) hsat
    refine⟨_,run_beginRound hl1 (by rw[hrec]),?_⟩
    have h4:=hb kk g y (w.heap.size+1) w.heap.size (.loop { rec .ready none with state:=.busy}) M' hk hIg hp a1 _ hsat1 (W6 AV7) hsb
    refine wpIn_mono (F:=FR (some (w.heap.size+1))) h4 λ e a3 w3 q=>?_
    cases e with
    |normal=>
     obtain⟨sb,⟨g',rfl,hI'⟩,hsat3⟩:=q
     obtain⟨hl3,hsat4⟩:=aJ (r':=rc true) hsat3
     have hr:=run_endRound (P:=c.P) none hl3
     refine⟨_,_,hr,?_⟩
     obtain⟨_,M3,hS6,hF6,hle6⟩:=hsat4
     refine⟨(true,g'),M3,rfl,⟨rfl,hI'⟩,hle6,?_,hF6⟩
     dsimp only
     rw[pass true]
     have e1:Obj.loop { { rec .ready none with state:=.busy}with state:=if(none:Option Code).isNone=true then LoopState.ready else LoopState.done,pending:=none}=rc true:=by rw[hrt,hrec];rfl
     rw[e1];exact hS6
    |ret=>
     obtain⟨sb,⟨g',rfl,hJ'⟩,hsat3⟩:=q
     obtain⟨hl3,hsat4⟩:=aJ (r':=rc false) hsat3
     have hr:=run_endRound (P:=c.P) (some .ret) hl3
     refine⟨_,_,hr,?_⟩
     obtain⟨_,M3,hS6,hF6,hle6⟩:=hsat4
     refine⟨(false,g'),M3,rfl,⟨rfl,hJ'⟩,hle6,?_,hF6⟩
     dsimp only
     rw[pass true]
     have e1:Obj.loop { { rec .ready none with state:=.busy}with state:=if(some Code.ret:Option Code).isNone=true then LoopState.ready else LoopState.done,pending:=some .ret}=rc false:=by rw[hrf,hrec];rfl
     rw[e1];exact hS6
    |_=>exact q.elim
   |_=>exact q.elim
  ·rintro e W2 ⟨⟨gb,g⟩,M',rfl,hIn,hle,hS3,hF3⟩
   dsimp only at hIn hS3 hF3
   rw[pass true]at hS3
   have hi:(HD (Sf g).H++(HO.raw (w.heap.size+1) (rc gb):: .raw w.heap.size EI::c.Hr))[(HD (Sf g).H).length]? =some (.raw (w.heap.size+1) (rc gb)):=by simp
   have hl:=(hS3.obj hi).2.1
   have hd:a.defers=[]:=hsl.DE
   have hupd: ∀a':Act,a'.defers=[]->DD [⟨.collected w.heap.size,#[]⟩] a'= { a' with defers:=[⟨.collected w.heap.size,#[]⟩]++a'.defers}:=λ a' h=>by unfold DD;rw[h];rfl
   have hS5: ∀o',St c.w0 c.M0 (W2.putObj (w.heap.size+1) o') M' (HD (Sf g).H++(.raw w.heap.size EI::c.Hr)):=λ o'=>(hS3.aI hi o').drop _ (by
    rw[List.set_append_right _ _ (Nat.le_refl _),Nat.sub_self]
    exact List.Sublist.append (List.Sublist.refl _) (List.sublist_cons_self _ _))
   rcases hIn with⟨hgb,hIn⟩|⟨hgb,hJn⟩
   ·subst hgb
    rw[hrt]at hl
    have hend:=run_endLoop (P:=c.P) hl (by rw[hrec];simp)
    have hend2:(Instr.endLoop (w.heap.size+1)).run c.P W2= .ok none (W2.putObj (w.heap.size+1) (.loop { rec .ready none with state:=.exhausted})):=by rw[hend];rw[hrec]
    refine⟨none,_,hend2,?_⟩
    have:=hn w.heap.size g a (W2.putObj (w.heap.size+1) (.loop { rec .ready none with state:=.exhausted})) hIn (by rw[hL];exact hslL) ⟨M',hS5 _,hF3,hX.le.trans hle⟩
    rw[hupd a hd]at this
    exact this
   ·subst hgb
    rw[hrf]at hl
    have hend:=run_endLoop (P:=c.P) hl (by rw[hrec];simp)
    have hend2:(Instr.endLoop (w.heap.size+1)).run c.P W2= .ok (some .ret) (W2.putObj (w.heap.size+1) (.loop { rec .done (some .ret)with state:=.exhausted})):=by rw[hend];rw[hrec]
    refine⟨some .ret,_,hend2,?_⟩
    have:=hr w.heap.size g a (W2.putObj (w.heap.size+1) (.loop { rec .done (some .ret)with state:=.exhausted})) hJn (by rw[hL];exact hslL) ⟨M',hS5 _,hF3,hX.le.trans hle⟩
    rw[hupd a hd]at this
    exact wpIn_ret this
theorem AV9{P:Program}{N:Nat}{w0:World}{M0 M1:Mem}{Hr:List HO}{T:TT}{hT:EH P T}{B:Exit->Act->World->Prop}{k k':List Fr}{m:Md}{s s':XS}{O:Prop}{E:List Ck}{all:Array Oper}{rest:List Oper}{d:Nat}{ty:TypeId}{ps:String}{af:Array Edge}
  {γ:Type} (Hx:γ->List (Nat×HX)) (ub:γ->Bool) (ids:List Nat) {pu:γ->Prop} {Fg:γ->List (Nat×Kn)} {Hg:γ->List HO} {l:Nat} {xf:Operand} {E1 E2:List Ck} {xs:List Operand} {tys:Array TypeId} {vs:List XV} {A R:List (Nat×HX)} (ks:List Nat)
  (h:run T N k m s=⟨k',.ops all (⟨some d,.call ⟨.value xf,⟨xs⟩,tys⟩,ty,ps,af,none⟩::rest),s',O,E⟩) (hE:AD E) (hO:O) (hf:BZ s'.L .t xf=some (.v (.func (.yield l) #[] #[]),E1)) (hE1:AD E1) (hd:Nat.blt d N=true) (hx:J6 s'.L .t xs=some (vs,E2)) (hE2:AD E2)
  (hA:L1 ids s'.H=some (A,R)) (hc: ∀w M,St w0 M0 w M (HD A++(HD R++Hr))->BF M s'.F->M1.le M->jE P l (vs.map XV.d).toArray w (DT w0 M0 M (HD R++Hr) (λ g:γ=>.bool (ub g)) pu Fg Hg)) (hH: ∀g,HD (Hx g)=Hg g)
  (hn: ∀g,pu g->XG ⟨P,N,w0,M0,M1,Hr,T,hT,.W8 P none 1⟩ B k' (.ops all rest) ⟨RJ ks (Fg g)++s'.F,Hx g++R,(d,.t,.v (.bool (ub g)))::s'.L⟩):XG ⟨P,N,w0,M0,M1,Hr,T,hT,.W8 P none 1⟩ B k m s:=by
 refine CX h hE hO λ a w ⟨hs,M,hX⟩ hl hst=>?_
 rw[List.all_cons,Bool.and_eq_true]at hst
 have hSt:St w0 M0 w M (HD A++(HD R++Hr)):=hX.st.perm (by rw[<-List.append_assoc];exact(OJ hA).append_right _)
 obtain⟨fn,tmps,assign,body,hy,hr⟩:=hc w M hSt hX.f hX.le
 unfold wpListIn
 rw[if_pos (show Region.wanted ⟨some d,.call ⟨.value xf,⟨xs⟩,tys⟩,ty,ps,af,none⟩ (yielded all a.tmps)=true from rfl)]
 refine⟨λ _ _=>trivial,?_⟩
 have key:=y7 (P:=P) (w:=w) (AN hf hE1) (NB hx hE2) hs U (d:=some d) (tys:=tys) (ty:=ty) (ps:=ps) (af:=af) (gd:=none)
 rw[show(FR none).round=none from rfl,show ∀(o:Oper),Oper.semAt none a.eval o=execOp a.eval o from λ _=>rfl]
 have e1:(⟨xs⟩:Array Operand)=xs.toArray:=rfl
 rw[e1,key,hy]
 refine⟨(λ h=>by cases h),RoundIn.mono (R:=DT w0 M0 M (HD R++Hr) (λ g:γ=>.bool (ub g)) pu Fg Hg) hr λ e w' he=>?_⟩
 obtain⟨g,M',rfl,hp,hle,hS,hF⟩:=he
 have hs2:=TC hs hd (.v (.bool (ub g)))
 have e2:HD (Hx g++R)++Hr=Hg g++(HD R++Hr):=by rw[<-hH];unfold HD;rw[List.map_append,List.append_assoc]
 exact hn g hp _ w' ⟨hs2,M',by rw[e2];exact hS,(W3 hF).app (hX.f.mono hle),hX.le.trans hle⟩ hl hst.2
theorem NF.leave {P:Program}{T:TT}(hT:EH P T){fn:Func}{R:Ending->World->Prop}{Q:Exit->Act->World->Prop}(hB:NF P fn R Q){D N:Nat}{H:List (Nat×HX)}{Hr:List HO}{L:XE}{a:Act}{w0 w:World}{M0 M:Mem}{rs:List ResultVar}{vs:List XV}{E2:List Ck}
  (hS:St w0 M0 w M (HD H++(.raw D EI::Hr))) (hs:AJ a N L.d) (hr:fn.results=⟨rs⟩) (hl:OL T H L rs=some (vs,E2)) (hE2:AD E2) (hR: ∀w',St w0 M0 w' M (HD H++Hr)->R (.returned (PL vs)) w'):Q .ret (DD (IM D) a) w:=by
 have hi:(HD H++(HO.raw D EI::Hr))[(HD H).length]? =some (.raw D EI):=by simp
 have hD:=(hS.obj hi).2.1
 have hS5:St w0 M0 (w.putObj D (.deferred none)) M (HD H++Hr):=(hS.aI hi (.deferred none)).drop _ (by
  rw[List.set_append_right _ _ (Nat.le_refl _),Nat.sub_self]
  exact List.Sublist.append (List.Sublist.refl _) (List.sublist_cons_self _ _))
 refine hB.all .ret (DD (IM D) a) w ?_
 show LeavesInM _ _ _ _ _ _ (a.defers++IM D) _ _
 rw[hs.DE]
 exact⟨by simp,.inl ⟨D,_,rfl,run_takeDeferred hD,_,(XB (a:=a) hT hS5 hs hr hl hE2:(results fn a.tmps).run P _=_),hR _ hS5⟩⟩
theorem AW0{c:Cx}{k:List Fr}{m:Md}{s s':XS}{O:Prop}{E:List Ck}{fn:Func}{R:Ending->World->Prop}{B0:Exit->Act->World->Prop}{D dk:Nat}{H:List (Nat×HX)}{rs:List ResultVar}{vs:List XV}{E2:List Ck}(hB:NF c.P fn R B0)(hr:fn.results=⟨rs⟩)(h:run c.T c.N k m s=⟨[],.ret,s',O,E⟩)(hE:AD E)(hO:O)
  (hH:s'.H=(dk,.ho (.raw D EI))::H) (hl:OL c.T H s'.L rs=some (vs,E2)) (hE2:AD E2) (hR: ∀w M,St c.w0 c.M0 w M (HD H++c.Hr)->BF M s'.F->c.M1.le M->R (.returned (PL vs)) w):XG c (bD D B0) k m s:=
 CX h hE hO λ a w ⟨h1,M,h2⟩=>hB.leave c.hT (D:=D) (H:=H) (Hr:=c.Hr) (M:=M) (by
  have:=h2.st
  rw[hH]at this
  have e:HD ((dk,HX.ho (HO.raw D EI))::H)++c.Hr= .raw D EI::(HD H++c.Hr):=rfl
  rw[e]at this
  exact this.perm List.perm_middle) h1 hr hl hE2 λ w' h=>hR w' M h h2.f h2.le
set_option maxRecDepth 100000
def DW(t:Tf)(k:Nat):Int:=1+len (AM (t.ps.take k))
theorem Y2(t:Tf)(k:Nat):EJ t.flat (DW t k) (t.ps.drop k) []:=by
 have h0:=A4 (AM (t.ps.take k))
 refine⟨by unfold DW;omega,?_⟩
 rw[Tf.KC,show(DW t k).toNat=(AM (t.ps.take k)).length+1 by unfold DW len;omega,List.drop_succ_cons]
 conv=>lhs;rw[<-List.take_append_drop k t.ps,JG]
 simp
theorem dO{t:Tf}{k:Nat}(hk:k<t.ps.length):DW t (k+1)=DW t k+len (at' t.ps (k:Int)).flat:=by
 obtain⟨h1,h2⟩:=EU t.ps (i:=(k:Int)) (by omega) (by unfold len;omega)
 unfold DW
 rw[List.take_add_one,JG,A5,h2]
 simp[hk,AM]
 omega
theorem UD(t:Tf)(k:Nat):1<=DW t k/\DW t k<=len t.flat:=by
 have h0:=A4 (AM (t.ps.take k))
 have h1:=A4 (AM (t.ps.drop k))
 have h2:len t.flat=1+(len (AM (t.ps.take k))+len (AM (t.ps.drop k))):=by
  rw[Tf.KC,A6,<-A5,<-JG,List.take_append_drop];omega
 unfold DW;omega
theorem AW1{t:Tf}{k:Nat}(hk:k<t.ps.length):Eng.sub t.flat (DW t k) (DW t (k+1))=(at' t.ps (k:Int)).flat:=by
 have h:=(Y2 t k).next hk
 have h2:=Y2 t (k+1)
 have h3:EJ t.flat (DW t (k+1)) [] (AM (t.ps.drop (k+1))):=⟨h2.1,by rw[h2.2];simp[AM]⟩
 refine h.part h3 ?_ (UD t (k+1)).2
 rw[dO hk];have:=(at' t.ps (k:Int)).FU;omega
theorem AW2{t:Tf}{k:Nat}(hk:k<t.ps.length):at' t.flat (DW t k)= { (at' t.ps (k:Int)).t with many:=len (at' t.ps (k:Int)).ps}/\DW t k<len t.flat:=
 let h:=((Y2 t k).next hk).step;⟨h.2.1,h.1⟩
theorem Y3{b:Bool}(hb:b=true){E:List Ck}(h: ∀c∈E,c= .b true b):AD E:=λ c hc=>by rw[h c hc];exact λ _=>hb
def HM:List Tf->Int->A1->(Tf->Int×Bool)->Int×Bool
 |[],_,_,_=>(0,false)
 |x::l,o,n,F=>if x.t.name=n then(if(F x).2=true then(o+(F x).1,true)else(0,false))else HM l (o+len x.flat) n F
def D4:List Sp->Tf->Int×Bool
 |[],t=>(0,decide (t.t.op=1))
 |s::p,t=>if t.t.op≠2\/s.part=true then(0,false)else HM t.ps 1 s.name (D4 p)
theorem pO{F:Tf->Int×Bool}{n:A1}: ∀ {l:List Tf} {o:Int},(∀x∈l,0<=(F x).1/\(F x).1<len x.flat)->0<o->0<=(HM l o n F).1/\(HM l o n F).1<o+len (AM l)
 |[],o,_,h0=>⟨by show(0:Int)<=0;omega,by have:=A4 (AM []);show(0:Int)<_;omega⟩
 |x::l,o,h,h0=>by
  have hx:=h x (.head _)
  have hl:=A4 (AM l)
  have hxf:=A4 x.flat
  have ih:=pO (F:=F) (n:=n) (l:=l) (o:=o+len x.flat) (λ y hy=>h y (.tail _ hy)) (by omega)
  have e:len (AM (x::l))=len x.flat+len (AM l):=by show len (x.flat++AM l)=_;rw[A5]
  rw[e]
  unfold HM
  split
  ·split
   ·exact⟨by show 0<=o+(F x).1;omega,by show o+(F x).1<_;omega⟩
   ·exact⟨by show(0:Int)<=0;omega,by show(0:Int)<_;omega⟩
  ·exact⟨ih.1,by omega⟩
theorem pP: ∀(p:List Sp) (t:Tf),0<=(D4 p t).1/\(D4 p t).1<len t.flat
 |[],t=>⟨Int.le_refl _,t.FU⟩
 |s::p,t=>by
  unfold D4
  split
  ·exact⟨Int.le_refl _,t.FU⟩
  ·have h:=pO (F:=D4 p) (n:=s.name) (l:=t.ps) (o:=1) (λ x _=>pP p x) (by omega)
   refine⟨h.1,?_⟩
   rw[Tf.KC,A6];omega
theorem dP{F:Tf->Int×Bool}{n:A1}: ∀ {k:Nat} {l:List Tf} {o:Int},(∀x∈l.take k,x.t.name≠n)->HM l o n F=HM (l.drop k) (o+len (AM (l.take k))) n F
 |0,l,o,_=>by simp[AM,len]
 |k+1,[],o,_=>rfl
 |k+1,x::l,o,h=>by
  have h1:x.t.name≠n:=h x (by simp)
  have ih:=dP (F:=F) (n:=n) (k:=k) (l:=l) (o:=o+len x.flat) λ y hy=>h y (by simp[hy])
  rw[HM,if_neg h1,ih]
  show _=HM (l.drop k) (o+len (x.flat++AM (l.take k))) n F
  rw[A5,Int.add_assoc]
theorem AW3{t:Tf}{k:Nat}{n:A1}{F:Tf->Int×Bool}(hk:k<t.ps.length)(hno: ∀x∈t.ps.take k,x.t.name≠n)(hn:(at' t.ps (k:Int)).t.name=n):
  HM t.ps 1 n F=if(F (at' t.ps (k:Int))).2=true then(DW t k+(F (at' t.ps (k:Int))).1,true)else(0,false):=by
 obtain⟨h1,h2⟩:=EU t.ps (i:=(k:Int)) (by omega) (by unfold len;omega)
 have e:t.ps.drop k=at' t.ps (k:Int)::t.ps.drop (k+1):=by
  rw[h2,List.drop_eq_getElem_cons hk];simp
 rw[dP hno,e,HM,if_pos hn];rfl
theorem AW4{t:Tf}{n:A1}{F:Tf->Int×Bool}(hno: ∀x∈t.ps.take t.ps.length,x.t.name≠n):HM t.ps 1 n F=(0,false):=by
 rw[dP hno,List.drop_length];rfl
theorem dQ{α:Type}(s:α)(p:List α):Eng.sub (s::p) 1 (len (s::p))=p:=by
 unfold Eng.sub len
 rw[show((1:Int).toNat)=1 from rfl,List.drop_succ_cons,List.drop_zero]
 exact List.take_of_length_le (by simp)
theorem AW5{t:Tf}{k:Nat}{n:A1}(hk:k<t.ps.length)(hno: ∀x∈t.ps.take k,x.t.name≠n)(h:(at' t.ps (k:Int)).t.name≠n): ∀x∈t.ps.take (k+1),x.t.name≠n:=by
 obtain⟨h1,h2⟩:=EU t.ps (i:=(k:Int)) (by omega) (by unfold len;omega)
 rw[h2]at h
 intro x hx
 rw[List.take_add_one]at hx
 rcases List.mem_append.1 hx with hx|hx
 ·exact hno x hx
 ·simp[hk]at hx;subst hx;simpa using h
end Go.Eng
namespace Go.Proofs.YtmjpjbmeamnfpaaGreatDoor
open Go.Proofs.Tryz
open Go.Eng
theorem AW6(v:Value)(f:Fl)(i:Int)(u:Tf)(R:Fl){w:World}{M:Mem}(hM:Sat w M)(hl:(B7 v f).ok M)(h:EJ f i [u] R)(hi:i<=len f)(hb:len f<=1099511627776):
    Calls prog 306 [v,i64 i].toArray w λ e w'=>e= .returned (i64 (i+len u.flat))/\Ext w w':=by
 have hi0:=h.1
 have hul:=u.FU
 have hul2:=h.OO hi
 have e1:AM [u]=u.flat:=by show u.flat++AM []=_;simp[AM]
 rw[e1]at hul2
 have hR0:=A4 R
 refine AU (Hr:=[]) AP func306 U ntmps306 [(0,B7 v f)] [] [.sl 0 v,I i] U (Ak hM) (CK hl AA) (λ B hB=>?_) U
 refine CD (σ:=Int×Int×List Tf) (λ(tz,lf,st)=>⟨[(0,B7 v f)],[],[Z 0 (.sl 0 v),Z 1 (I tz),Z 4 (I 0),Z 5 (I lf)]⟩) (λ(tz,lf,st)=>EJ f tz st R/\lf=len st/\i<=tz/\tz<=len f) (λ(tz,lf,st)=>(len f-tz).toNat) (i,1,[u]) U (A0 U) U U ⟨h,rfl,by omega,by omega⟩ ?_
 rintro⟨tz,lf,st⟩ ⟨hto,hlf,hit,htl⟩
 have q6:=A4 R
 refine A7 U (A0 U) U (λ hb2=>?_) (λ hb2=>?_)<;>simp only[zb]at hb2
 ·cases st with
   |nil=>rw[len_nil]at hlf;omega
   |cons u st=>
    obtain⟨q1,q2,q3⟩:=hto.step
    have q4:=q3.OO (by omega)
    have q5:=WL (u.ps++st)
    have q7:(at' f tz).many=len u.ps:=by rw[q2]
    rw[A5]at q5
    rw[A6]at hlf
    have q8:=A4 u.ps
    have q9:=A4 st
    have q0:=hto.1
    exact C7 (tz+1,lf+((at' f tz).many-1),u.ps++st) U (A0 U) (by simp only[zb]<;>omega) U ⟨q3,by rw[A5];omega,by omega,by omega⟩ (by show Int.toNat _<Int.toNat _;omega)
 have hse:st=[]:=by
  have:=A4 st
  cases st with
  |nil=>rfl
  |cons u st=>have:=A4 st;rw[A6]at hlf;omega
 subst hse
 have q4:=hto.OO htl
 have e2:len (AM [])=0:=rfl
 have hte:tz=i+len u.flat:=by omega
 subst hte
 exact A9 hB U U (A0 U) U U (A0 U) λ w M hX=>⟨rfl,hX.st.low⟩
theorem AW7{w0 w:World}{M0 M:Mem}{y1:HO}{Rs:List HO}{b:Nat}{v:Value}{t:Tf}(hl:(B7 v t.flat).ok M)(hb:len t.flat<=1099511627776)(hk1:t.t.op≠1):
    pN prog 305 [.pointer (some ⟨b,0,none⟩)] t.ps.length w0 M0 (y1:: .box b [v] 36::Rs)
      (λ k (_:Unit)=>[I (DW t k),I (DW t (k+1))]) (λ _ _=>True) (λ _ _=>[]) w M:=by
 intro γ ub I' J Hy Fy l g0 ⟨x1,x2,x3,x4,x5,hx⟩ hS hF hI hy
 have hS2:St w0 M0 w M (.box b [v] 36::x1 g0::x2 g0::x3 g0::x4 g0::x5 g0::(y1::Rs)):=by
  rw[hx]at hS
  exact hS.perm (List.perm_middle (l₁:=[x1 g0,x2 g0,x3 g0,x4 g0,x5 g0,y1])).symm
 have hmny:=t.yF
 have hpos:=t.FU
 have hps:=WL t.ps
 have hpl:len t.flat=1+len (AM t.ps):=by rw[Tf.KC,A6];omega
 have hln:len t.ps=(t.ps.length:Int):=rfl
 have hop:(at' t.flat 0).op=t.t.op:=by rw[Tf.WK]
 refine y5 (Hr:=y1::Rs) AP func305 rfl ntmps305 rfl (λ w h=>by obtain⟨g,M',h,_⟩:=h;cases h) [(0,B7 v t.flat),(9,aL (Fy g0))] [(0,.box b [.sl 0 v] 36),(1,.ho (x1 g0)),(2,.ho (x2 g0)),(3,.ho (x3 g0)),(4,.ho (x4 g0)),(5,.ho (x5 g0))] [.v (.func (.yield l) #[] #[]),.bx 0 b 0] rfl hS2 (CK hl (CK ⟨Sl.nil M 1,DZ,hF⟩ AA)) (λ B hB=>?_) rfl
 refine CD (σ:=Int×Nat×γ) (λ(i,k,g)=>⟨[(0,B7 v t.flat),(9,aL (Fy g))],[(0,.box b [.sl 0 v] 36),(1,.ho (x1 g)),(2,.ho (x2 g)),(3,.ho (x3 g)),(4,.ho (x4 g)),(5,.ho (x5 g))],[Z 0 (.v (.func (.yield l) #[] #[])),Z 1 (.bx 0 b 0),Z 3 (I i),Z 8 (I (at' t.flat 0).many),Z 9 (I k)]⟩) (λ(i,k,g)=>i=DW t k/\k<=t.ps.length/\I' k g) (λ(i,k,g)=>t.ps.length-k) (1,0,g0) U (A0 U) (by simp only[zb]<;>omega) U ⟨rfl,Nat.zero_le _,hI⟩ ?_
 rintro⟨i,k,g⟩ ⟨hi,hk,hIk⟩
 have hpk:=UD t k
 refine A7 U (A0 U) (by simp only[zb]<;>omega) (λ hb1=>?_) (λ hb1=>?_)<;>simp only[zb]at hb1
 ·have hk2:k<t.ps.length:=by omega
  have hpk2:=UD t (k+1)
  have hst:=dO hk2
  subst hi
  refine AY U (A0 U) U call306 U U (A0 U) (λ _ w M hX=>AW6 v t.flat (DW t k) _ _ hX.st.sat (hX.f.get (k:=0) U) ((Y2 t k).next hk2) (by omega) hb) U ?_
  rw[<-hst]
  refine L3 (.v (.bool true)) U (A0 U) (by omega) U (λ hb2=>?_) (λ hb2=>?_)
  ·refine AV9 (λ g'=>[(1,.ho (x1 g')),(2,.ho (x2 g')),(3,.ho (x3 g')),(4,.ho (x4 g')),(5,.ho (x5 g'))]) ub [1,2,3,4,5] (γ:=γ) (pu:=λ g=>if ub g=true then I' (k+1) g else J g) (Fg:=λ g'=>[(9,aL (Fy g'))]) (Hg:=Hy) [9] U (A0 U) (by simp only[zb]<;>omega) U (OK hb2 U) U U (Y3 hb2 (by simp)) U (λ w' M' hS' hF' hle=>?_) (λ g'=>by rw[hx];rfl) λ g' hg'=>?_
   ·have hp:(Hy g++(y1:: .box b [v] 36::Rs)).Perm (x1 g::x2 g::x3 g::x4 g::x5 g:: .box b [v] 36::y1::Rs):=by
     rw[hx]
     exact((((((List.Perm.swap _ _ _).cons _).cons _).cons _).cons _).cons _)
    obtain⟨fn,tt',asg,bd,e1,e2⟩:=hy k g () w' M' hk2 hIk trivial (hS'.perm hp) hle (λ x h=>by cases h) (hF'.get (k:=9) rfl).more
    refine⟨fn,tt',asg,bd,e1,e2.mono λ e w2 h=>?_⟩
    obtain⟨g',M2,r1,r2,r3,r4,r5⟩:=h
    refine⟨g',M2,r1,r2,r3,?_,CK ⟨Sl.nil M2 1,DZ,r5⟩ AA⟩
    exact r4.perm (List.Perm.append_left _ (List.Perm.swap _ _ _))
   ·refine A7 U (Y3 hb2 (by simp[hop,hk1])) U (λ hb3=>?_) (λ hb3=>?_)<;>simp only[zb]at hb3
    ·rw[if_neg (by rw[hb3.2];decide)]at hg'
     refine A9 hB U U (Y3 hb2 (by simp[hop,hk1])) U U (A0 U) λ w' M' hX=>⟨g',M',rfl,.inr hg',hX.le,?_,(hX.f.get (k:=9) U).more⟩
     refine hX.st.perm ?_
     rw[hx]
     exact List.Perm.append_left [x1 g',x2 g',x3 g',x4 g',x5 g'] (List.Perm.swap _ _ _)
    ·rw[if_pos (hb3.resolve_left (by rw[hop];exact hk1))]at hg'
     exact C7 (DW t (k+1),k+1,g') U (Y3 hb2 (by simp[hop,hk1])) (by simp only[zb]<;>omega) U ⟨rfl,hk2,hg'⟩ (by show t.ps.length-(k+1)<t.ps.length-k;omega)
  ·rw[hop]at hb2;simp[hk1]at hb2
 ·have hk3:k=t.ps.length:=by omega
  refine TE hB U U (A0 U) U λ w' M' hX=>⟨g,M',rfl,.inl (by rw[<-hk3];exact hIk),hX.le,?_,(hX.f.get (k:=9) U).more⟩
  refine hX.st.perm ?_
  rw[hx]
  exact List.perm_middle (l₁:=[x1 g,x2 g,x3 g,x4 g,x5 g,y1])
theorem AW8{w0 wv:World}{M0 M:Mem}{Rs:List HO}{v:Value}{t:Tf}(hS:St w0 M0 wv M Rs)(hl:(B7 v t.flat).ok M):
  Calls prog 289 [v].toArray wv (DT w0 M0 M Rs (λ b:Nat=>.func (.func 305) #[] #[.pointer (some ⟨b,0,none⟩)]) (λ _=>True) (λ _=>[]) λ b=>[.box b [v] 36]):=by
 refine AU (Hr:=Rs) AP func289 U ntmps289 [(0,B7 v t.flat)] [] [.sl 0 v] U hS (CK hl AA) (λ B hB=>?_) U
 refine F0 1 U (A0 U) U U U (A0 U) λ b=>?_
 refine CY (.v (.func (.func 305) #[] #[.pointer (some ⟨b,0,none⟩)])) U (A0 U) U U (λ w M hX=>PV.makeFunc (xs:=[]) (ys:=[.tmp 1]) (vs:=[]) (us:=[.pointer (some ⟨b,0,none⟩)]) trivial ⟨AN (v:=.bx 1 b 0) (E:=[]) U (A0 U),trivial⟩) ?_
 exact A9 hB rfl rfl (A0 rfl) U rfl (A0 rfl) λ w' M' hX=>⟨b,M',rfl,trivial,hX.le,hX.st,λ x h=>by cases h⟩
theorem AW9: ∀(p:List Sp) {w0 wv:World} {M0 M:Mem} {Rs:List HO} (v u:Value) (t:Tf),St w0 M0 wv M Rs->(B7 v t.flat).ok M->(kn u 3 p Sp.cells).ok M->len t.flat<=1099511627776->len p<=1099511627776->
    Calls prog 259 [v,u].toArray wv (DT w0 M0 M Rs (λ _:Unit=>.tuple #[i64 (D4 p t).1,.bool (D4 p t).2]) (λ _=>True) (λ _=>[]) λ _=>[]):=by
 intro p
 induction p with
 |nil=>
  intro w0 wv M0 M Rs v u t hS hl hu hb hbp
  have hpos:=t.FU
  refine jH (Hr:=Rs) AP func259 U ntmps259 [(0,B7 v t.flat),(1,kn u 3 [] Sp.cells)] [] [.sl 0 v,.sl 1 u] U hS (CK hl (CK hu AA)) (λ B hB=>?_) U
  refine F0 2 U (A0 U) U U U (A0 U) λ b2=>?_
  refine F0 3 U (A0 U) U U U (A0 U) λ b3=>?_
  refine CU 4 U (A0 U) U zeroValue3 U λ b4=>?_
  refine CU 5 U (A0 U) U zeroValue4 U λ b5=>?_
  refine A7 U (A0 U) U (λ hb1=>?_) (λ hb1=>?_)<;>simp only[zb]at hb1
  ·refine MK [5,6] 3 (λ _ _ _ _ _ h=>h) U (A0 U) U EM (by decide+kernel) ?_
   refine D2 5 U (A0 U) (by omega) U U ?_
   refine CL U (A0 U) U ?_
   refine D2 6 U (A0 U) (by omega) U U ?_
   refine CL U (A0 U) U ?_
   refine IP U (A0 U) U U U ?_
   exact A9 hB.ends U U (A0 U) U U (A0 U) λ w M' hX=>⟨(),M',by rw[Tf.WK];rfl,trivial,hX.le,hX.st.drop _ jY,AA⟩
  ·exfalso;exact hb1 U
 |cons s p ih=>
  intro w0 wv M0 M Rs v u t hS hl hu hb hbp
  have hpos:=t.FU
  have hp0:=A4 p
  rw[A6]at hbp
  have hsp:at' (s::p) 0=s:=rfl
  refine jH (Hr:=Rs) AP func259 U ntmps259 [(0,B7 v t.flat),(1,kn u 3 (s::p) Sp.cells)] [] [.sl 0 v,.sl 1 u] U hS (CK hl (CK hu AA)) (λ B hB=>?_) U
  refine F0 2 U (A0 U) U U U (A0 U) λ b2=>?_
  refine F0 3 U (A0 U) U U U (A0 U) λ b3=>?_
  refine CU 4 U (A0 U) U zeroValue3 U λ b4=>?_
  refine CU 5 U (A0 U) U zeroValue4 U λ b5=>?_
  have hlc:len (s::p)=len p+1:=A6 s p
  refine A7 U (A0 U) U (λ hb1=>?_) (λ hb1=>?_)<;>simp only[zb]at hb1
  ·exfalso;omega
  refine A7 U (A0 U) (by omega) (λ hb2=>?_) (λ hb2=>?_)<;>simp only[zb]at hb2<;>rw[Tf.WK,hsp]at hb2
  ·have e:D4 (s::p) t=(0,false):=by unfold D4;rw[if_pos hb2]
   exact A9 hB.ends U U (A0 U) U U (A0 U) λ w M' hX=>⟨(),M',by rw[e];rfl,trivial,hX.le,hX.st.drop _ jY,AA⟩
  have hop:t.t.op=2:=hb2.1
  have eL:D4 (s::p) t=HM t.ps 1 s.name (D4 p):=by rw[D4,if_neg (by rintro(q|q);exact q hb2.1;rw[hb2.2]at q;cases q)]
  refine BQ [] (λ b:Nat=>.v (.func (.func 305) #[] #[.pointer (some ⟨b,0,none⟩)])) [] (λ b=>[(6,.box b [.sl 0 v] 36)]) U (A0 U) U U call289 U U (A0 U) U (λ w M hS hF=>AW8 hS (hF.get (k:=0) U)) (λ _=>rfl) (λ _=>rfl) λ b6 _=>?_
  refine WC [6] U U ?_
  obtain⟨Sf,hSf⟩: ∃Sf:Int×Bool->XS,Sf=λ g=>⟨[(0,B7 v t.flat),(1,kn u 3 (s::p) Sp.cells)],[(2,.box b2 [.sl 0 v] 36),(3,.box b3 [.sl 1 u] 70),(4,.box b4 [I g.1] 3),(5,.box b5 [.v (.bool g.2)] 4)],[Z 2 (.bx 2 b2 0),Z 3 (.bx 3 b3 0),Z 4 (.bx 4 b4 0),Z 5 (.bx 5 b5 0)]⟩:=⟨_,rfl⟩
  refine AV8 (σ:=Int×Bool) (τ:=Unit) (λ g=>⟨[(0,B7 v t.flat),(1,kn u 3 (s::p) Sp.cells)],[(2,.box b2 [.sl 0 v] 36),(3,.box b3 [.sl 1 u] 70),(4,.box b4 [I g.1] 3),(5,.box b5 [.v (.bool g.2)] 4)],[Z 2 (.bx 2 b2 0),Z 3 (.bx 3 b3 0),Z 4 (.bx 4 b4 0),Z 5 (.bx 5 b5 0)]⟩)
    (λ k g=>g=(0,false)/\ ∀x∈t.ps.take k,x.t.name≠s.name) (λ g=>g=HM t.ps 1 s.name (D4 p)) (0,false)
    (λ k g y=>⟨[(0,B7 v t.flat),(1,kn u 3 (s::p) Sp.cells)],[(2,.box b2 [.sl 0 v] 36),(3,.box b3 [.sl 1 u] 70),(4,.box b4 [I g.1] 3),(5,.box b5 [.v (.bool g.2)] 4)],[Z 6 (I (DW t k)),Z 7 (I (DW t (k+1))),Z 2 (.bx 2 b2 0),Z 3 (.bx 3 b3 0),Z 4 (.bx 4 b4 0),Z 5 (.bx 5 b5 0)]⟩)
    (λ _ _ _ _ h=>h) U (A0 U) U U (A0 U) call305 U ⟨rfl,λ x hx=>by simp at hx⟩ (λ _=>rfl) ⟨_,_,_,_,λ _=>rfl⟩ (λ w M D w' hX=>AW7 (hX.f.get (k:=0) U) hb (by rw[hop];decide)) (λ _ _=>rfl)
    (λ k g y l D r M hk hI hp=>?_) U (λ k g y l D r M hk hI hp=>?_) U (λ D g a w hI=>?_) (λ D g a w hJ=>?_)
  ·exact B5 _ U (A0 U) U U U
  ·obtain⟨rfl,hno⟩:=hI
   have hpk:=UD t k
   have hpk2:=UD t (k+1)
   have hst:=dO hk
   have hcp:=(at' t.ps (k:Int)).FU
   obtain⟨hrt,hrl⟩:=AW2 hk
   refine pM [] 1 U (A0 U) U EM (by decide+kernel) ?_
   refine IP U (A0 U) (by omega) U U ?_
   refine dM ?_
   refine A7 U (A0 U) U (λ hb3=>?_) (λ hb3=>?_)<;>simp only[zb]at hb3<;>rw[hrt,hsp]at hb3
   ·have hsub:=AW1 hk
    have hcb:=pP p (at' t.ps (k:Int))
    have hla:=AW3 (F:=D4 p) hk hno hb3
    refine pM [3,5,6,10,11] 6 U (A0 U) U EM (by decide+kernel) ?_
    refine jQ 3 5 U (A0 U) U U U ?_ ?_
    ·refine PJ (gd:=none) 8 (DW t k) (DW t (k+1)) U (A0 U) U U (A0 U) U ⟨.i64,_,rfl,A0 U⟩ ⟨.i64,_,rfl,A0 U⟩ underlying36 sizeOf48 (by omega) U U λ v8=>?_
     rw[hsub]
     refine CL U (A0 U) U ?_
     refine D2 5 U (A0 U) U U U ?_
     refine PJ (gd:=none) 9 1 (len (s::p)) U (A0 U) U U (A0 U) U ⟨.i64,_,rfl,A0 U⟩ U underlying70 sizeOf68 (by omega) U U λ v9=>?_
     rw[dQ]
     refine CL U (A0 U) U ?_
     refine D2 6 U (A0 U) U U U ?_
     refine BQ [] (λ _:Unit=>.tu [I (D4 p (at' t.ps (k:Int))).1,.v (.bool (D4 p (at' t.ps (k:Int))).2)]) [] (λ _=>[]) (Fg:=λ _=>[]) U (A0 U) U U call259 U U (A0 U) U (λ w M hS hF=>ih v8 v9 (at' t.ps (k:Int)) hS (hF.get (k:=8) U) (hF.get (k:=9) U) (by omega) (by omega)) (λ _=>rfl) (λ _=>rfl) λ _ _=>?_
     refine CL U (A0 U) U ?_
     refine D2 10 U (A0 U) U U U ?_
     refine CL U (A0 U) U ?_
     refine D2 11 U (A0 U) U U U ?_
     refine CL U (A0 U) U ?_
     refine IP U (A0 U) U U U ?_
     refine dM ?_
     refine A7 U (A0 U) U (λ hb4=>?_) (λ hb4=>?_)<;>simp only[zb]at hb4
     ·rw[if_neg (by rw[hb4];decide)]at hla
      exact Y1 _ U (A0 U) U U ⟨(0,false),rfl,hla.symm⟩
     ·rw[if_pos hb4]at hla
      exact Y1 _ U (A0 U) (by omega) U ⟨(DW t k+(D4 p (at' t.ps (k:Int))).1,true),rfl,hla.symm⟩
    ·refine PJ (gd:=none) 9 1 (len (s::p)) U (A0 U) U U (A0 U) U ⟨.i64,_,rfl,A0 U⟩ U underlying70 sizeOf68 (by omega) U U λ v9=>?_
     rw[dQ]
     refine CL U (A0 U) U ?_
     refine D2 3 U (A0 U) U U U ?_
     refine PJ (gd:=none) 8 (DW t k) (DW t (k+1)) U (A0 U) U U (A0 U) U ⟨.i64,_,rfl,A0 U⟩ ⟨.i64,_,rfl,A0 U⟩ underlying36 sizeOf48 (by omega) U U λ v8=>?_
     rw[hsub]
     refine CL U (A0 U) U ?_
     refine D2 6 U (A0 U) U U U ?_
     refine BQ [] (λ _:Unit=>.tu [I (D4 p (at' t.ps (k:Int))).1,.v (.bool (D4 p (at' t.ps (k:Int))).2)]) [] (λ _=>[]) (Fg:=λ _=>[]) U (A0 U) U U call259 U U (A0 U) U (λ w M hS hF=>ih v8 v9 (at' t.ps (k:Int)) hS (hF.get (k:=8) U) (hF.get (k:=9) U) (by omega) (by omega)) (λ _=>rfl) (λ _=>rfl) λ _ _=>?_
     refine CL U (A0 U) U ?_
     refine D2 10 U (A0 U) U U U ?_
     refine CL U (A0 U) U ?_
     refine D2 11 U (A0 U) U U U ?_
     refine CL U (A0 U) U ?_
     refine IP U (A0 U) U U U ?_
     refine dM ?_
     refine A7 U (A0 U) U (λ hb4=>?_) (λ hb4=>?_)<;>simp only[zb]at hb4
     ·rw[if_neg (by rw[hb4];decide)]at hla
      exact Y1 _ U (A0 U) U U ⟨(0,false),rfl,hla.symm⟩
     ·rw[if_pos hb4]at hla
      exact Y1 _ U (A0 U) (by omega) U ⟨(DW t k+(D4 p (at' t.ps (k:Int))).1,true),rfl,hla.symm⟩
   ·exact B5 _ U (A0 U) U U ⟨(0,false),rfl,rfl,AW5 hk hno hb3⟩
  ·obtain⟨rfl,hno⟩:=hI
   have e:=AW4 (F:=D4 p) hno
   refine xS 8 (λ _ _ _ _ h=>h) U (s:=⟨[(0,B7 v t.flat),(1,kn u 3 (s::p) Sp.cells)],[(2,.box b2 [.sl 0 v] 36),(3,.box b3 [.sl 1 u] 70),(4,.box b4 [I 0] 3),(5,.box b5 [.v (.bool false)] 4)],[Z 2 (.bx 2 b2 0),Z 3 (.bx 3 b3 0),Z 4 (.bx 4 b4 0),Z 5 (.bx 5 b5 0)]⟩) ?_ a w
   refine AW0 hB U U (A0 U) U U U (A0 U) λ w' M' hS' hF' hle=>⟨(),M',by rw[eL,e];rfl,trivial,hle,hS'.drop _ (List.sublist_append_right [_,_,_,_,_] _),AA⟩
  ·rintro hs ⟨M',h1,h2,h3⟩
   subst hJ
   show B .ret (DD (IM D) a) w
   refine hB.leave AP h1 hs U U (A0 U) λ w' h=>⟨(),M',by rw[eL];rfl,trivial,h3,h.drop _ (List.sublist_append_right [_,_,_,_,_] _),AA⟩
end Go.Proofs.YtmjpjbmeamnfpaaGreatDoor
set_option maxRecDepth 100000
namespace Go.Eng
def BX(t:Tm):Tm:=⟨t.op,t.many,t.name,[],0,B2⟩
def JM(t:Tm):Bool×Tm:=
 if t.op=0 then(t.many==0,BX t)
 else if t.op=1 then(decide (0<=t.many)&&decide (0<t.n)&&decide (t.n<=31),{ BX t with n:=t.n})
 else if t.op=9 then(t.many==0&&UC t.n t.c,{ BX t with n:=t.n,c:=t.c})
 else if t.op=2 then(decide (0<=t.many)&&decide (0<=t.n)&&decide (t.n<=1),{ BX t with n:=t.n})
 else if t.op=4 then(decide (0<=t.many),BX t)
 else if t.op=3\/t.op=5\/t.op=6 then(t.many==1,BX t)
 else if t.op=7\/t.op=8 then((GU t.s).2&&t.many==1,{ BX t with s:=t.s})
 else(false,BX t)
def MX(t:Tm):Bool:=(JM t).1&&decide (t=(JM t).2)
end Go.Eng
namespace Go.Proofs.YtmjpjbmeamnfpaaGreatDoor
open Go.Proofs.Tryz
open Go.Eng
abbrev LK(t:Tm):List XV:=[I t.op,I t.many,.v (str t.name),.v (str t.s),I t.n,I t.c.kind,I t.c.many,.v (str t.c.name),.v (str t.c.s),.v (.bool t.c.neg),I t.c.e]
abbrev pQ(t:Tm):Value:=.agg #[i64 t.op,i64 t.many,str t.name,str t.s,i64 t.n,i64 t.c.kind,i64 t.c.many,str t.c.name,str t.c.s,.bool t.c.neg,i64 t.c.e]
abbrev FW(t:Tm):XV:=.ag [I t.op,I t.many,.v (str t.name),.v (str t.s),I t.n,I t.c.kind,I t.c.many,.v (str t.c.name),.v (str t.c.s),.v (.bool t.c.neg),I t.c.e]
theorem AX0(t:Tm)(w:World)(M:Mem)(hM:Sat w M)(hg:Gl w)(ht:t.small):Calls prog 256 [pQ t].toArray w λ e w'=>e= .returned (.bool (MX t))/\Ext w w':=by
 obtain⟨hn1,hs1,hc1⟩:=ht
 refine AU (Hr:=[]) AP func256 U ntmps256 [] [] [FW t] U (Ak hM) AA (λ B hB=>?_) U
 refine F0 1 U (A0 U) U U U (A0 U) λ b1=>?_
 refine CU 3 U (A0 U) U zeroValue48 U λ b3=>?_
 refine ES 1 (λ s=> ∃(ok:Bool) (y:Tm),JM t=(ok,y)/\s=⟨[],[(1,.box b1 (LK t) 48),(3,.box b3 (LK y) 48)],[Z 1 (.bx 1 b1 0),Z 3 (.bx 3 b3 0),Z 4 (.v (.bool ok))]⟩) U (A0 U) U U (λ h0=>?_) (λ h0=>?_) ?_
 ·simp only[zb]at h0
  exact B5 _ U (A0 U) U U ⟨_,BX t,by unfold JM;rw[if_pos h0],rfl⟩
 ·simp only[zb]at h0
  refine A7 U (A0 U) U (λ h1=>?_) (λ h1=>?_)<;>simp only[zb]at h1
  ·exact B5 _ U (A0 U) U U ⟨_,{ BX t with n:=t.n},by unfold JM;rw[if_neg h0,if_pos h1],rfl⟩
  refine A7 U (A0 U) U (λ h9=>?_) (λ h9=>?_)<;>simp only[zb]at h9
  ·refine MK [5,7] 3 (λ _ _ _ _ _ h=>h) U (A0 U) U EM (by decide+kernel) ?_
   refine D2 5 U (A0 U) U U U ?_
   refine CL U (A0 U) U ?_
   refine D2 7 U (A0 U) U U U ?_
   refine CL U (A0 U) U ?_
   refine IP U (A0 U) U U U ?_
   refine AY U (A0 U) U call284 U U (A0 U) (λ _ w M hX=>AV4 t.n t.c w M hX.st.sat (hg.low hX.st.low) hc1) U ?_
   exact B5 _ U (A0 U) U U ⟨_,{ BX t with n:=t.n,c:=t.c},by unfold JM;rw[if_neg h0,if_neg h1,if_pos h9],rfl⟩
  refine A7 U (A0 U) U (λ h2=>?_) (λ h2=>?_)<;>simp only[zb]at h2
  ·exact B5 _ U (A0 U) U U ⟨_,{ BX t with n:=t.n},by unfold JM;rw[if_neg h0,if_neg h1,if_neg h9,if_pos h2],rfl⟩
  refine A7 U (A0 U) U (λ h4=>?_) (λ h4=>?_)<;>simp only[zb]at h4
  ·exact B5 _ U (A0 U) U U ⟨_,BX t,by unfold JM;rw[if_neg h0,if_neg h1,if_neg h9,if_neg h2,if_pos h4],rfl⟩
  refine ES 0 (λ s=> ∃b:Bool,(b=true↔(t.op=3\/t.op=5\/t.op=6))/\s=⟨[],[(1,.box b1 (LK t) 48),(3,.box b3 (LK (BX t)) 48)],[Z 1 (.bx 1 b1 0),Z 3 (.bx 3 b3 0),Z 4 (.v (.bool false)),Z 15 (I t.op),Z 81 (.v (.bool b))]⟩) U (A0 U) U U (λ h3=>?_) (λ h3=>?_) ?_
  ·exact B5 _ U (A0 U) U U ⟨_,by simp only[zb]at h3 ⊢;omega,rfl⟩
  ·refine A7 U (A0 U) U (λ h5=>?_) (λ h5=>?_)
   ·exact B5 _ U (A0 U) U U ⟨_,by simp only[zb]at h5 ⊢;omega,rfl⟩
   ·exact B5 _ U (A0 U) U U ⟨_,by simp only[zb]at h3 h5 ⊢;omega,rfl⟩
  rintro _ ⟨b,hbk,rfl⟩
  refine A7 U (A0 U) U (λ hf=>?_) (λ hf=>?_)
  ·exact B5 _ U (A0 U) U U ⟨_,BX t,by unfold JM;rw[if_neg h0,if_neg h1,if_neg h9,if_neg h2,if_neg h4,if_pos (hbk.1 hf)],rfl⟩
  have h356: ¬(t.op=3\/t.op=5\/t.op=6):=λ e=>by have:=hbk.2 e;rw[hf]at this;cases this
  clear hbk hf
  refine ES 0 (λ s=> ∃b:Bool,(b=true↔(t.op=7\/t.op=8))/\s=⟨[],[(1,.box b1 (LK t) 48),(3,.box b3 (LK (BX t)) 48)],[Z 1 (.bx 1 b1 0),Z 3 (.bx 3 b3 0),Z 4 (.v (.bool false)),Z 88 (.v (.bool b))]⟩) U (A0 U) U U (λ h3=>?_) (λ h3=>?_) ?_
  ·exact B5 _ U (A0 U) U U ⟨_,by simp only[zb]at h3 ⊢;omega,rfl⟩
  ·exact B5 _ U (A0 U) U U ⟨_,by simp only[zb]at h3 ⊢;omega,rfl⟩
  rintro _ ⟨b,hbk,rfl⟩
  refine A7 U (A0 U) U (λ hf=>?_) (λ hf=>?_)
  ·refine BQ [] (λ u:Value=>.tu [.sl 6 u,.v (.bool (GU t.s).2)]) [6] (λ _=>[]) (Fg:=λ u=>[(1,kn u 3 (GU t.s).1 Sp.cells)]) U (A0 U) U U call258 U U (A0 U) U (λ w M hS hF=>pK t.s hS hg (by omega)) (λ _=>rfl) (λ _=>rfl) λ u _=>?_
   exact B5 _ U (A0 U) U U ⟨_,{ BX t with s:=t.s},by unfold JM;rw[if_neg h0,if_neg h1,if_neg h9,if_neg h2,if_neg h4,if_neg h356,if_pos (hbk.1 hf)],rfl⟩
  have h78: ¬(t.op=7\/t.op=8):=λ e=>by have:=hbk.2 e;rw[hf]at this;cases this
  exact B5 _ U (A0 U) U U ⟨_,BX t,by unfold JM;rw[if_neg h0,if_neg h1,if_neg h9,if_neg h2,if_neg h4,if_neg h356,if_neg h78],rfl⟩
 rintro _ ⟨ok,y,hok,rfl⟩
 refine CY (.v (.bool (decide (t=y)))) U (A0 U) U U (λ w M hX=>PV.bin (AN (v:=FW t) U (A0 U)) (AN (v:=FW y) U (A0 U)) (λ _ w _=>OG _ _ _ _ w)) ?_
 refine A9 hB U U (A0 U) U U (A0 U) λ w M hX=>⟨?_,hX.st.low⟩
 unfold MX;rw[hok];rfl
end Go.Proofs.YtmjpjbmeamnfpaaGreatDoor
namespace Go.Eng
def Q7(t:Tm):List Tf->Bool
 |[x]=>if t.op=7\/t.op=8 then(D4 (GU t.s).1 x).2 else true
 |_=>if t.op=7\/t.op=8 then false else true
def Q8(o:Int)(n:A1):List Tf->Bool
 |[]=>true
 |y::_=> !(decide (o=2)&&decide (y.t.name<=n))
mutual
def ED:Tf->Bool
 | .mk t ps=>MX { t with many:=len ps}&&FI t.op ps&&Q7 t ps
def FI(o:Int):List Tf->Bool
 |[]=>true
 |x::l=>(decide (x.t.op=9)==decide (o=1))&&(decide (o=2)||decide (x.t.name=[]))&&Lib.validD x.t.name&&ED x&&Q8 o x.t.name l&&FI o l
end
def F8(t:Tf):Bool:=ED t&&decide (t.t.name=[])&&decide (t.t.op≠9)
theorem pR(u:Tf):ED u=(MX { u.t with many:=len u.ps}&&FI u.t.op u.ps&&Q7 u.t u.ps):=by cases u;rw[ED];rfl
theorem EJ.skip {f:Fl}{i:Int}{u:Tf}{us:List Tf}{R:Fl}(h:EJ f i (u::us) R):EJ f (i+len u.flat) us R:=by
 have h0:=h.1
 have hl:=A4 u.flat
 refine⟨by omega,?_⟩
 rw[show(i+len u.flat).toNat=i.toNat+u.flat.length by unfold len at*;omega,<-List.drop_drop,h.2]
 show(u.flat++AM us++R).drop _=_
 rw[List.append_assoc,List.drop_left]
theorem EJ.AX1 {f:Fl}{i:Int}{u:Tf}{us:List Tf}{R:Fl}(h:EJ f i (u::us) R):Eng.sub f i (i+len u.flat)=u.flat:=by
 have h0:=h.1
 have hl:=A4 u.flat
 unfold Eng.sub
 rw[h.2,show(i+len u.flat).toNat-i.toNat=u.flat.length by unfold len at*;omega]
 show(u.flat++AM us++R).take _=_
 rw[List.append_assoc,List.take_left]
theorem drop_cons{us:List Tf}{k:Nat}(hk:k<us.length):us.drop k=at' us (k:Int)::us.drop (k+1):=by
 obtain⟨h1,h2⟩:=EU us (i:=(k:Int)) (by omega) (by unfold len;omega)
 rw[h2,List.drop_eq_getElem_cons hk];simp
theorem pS{a b:A1}(h:Op.bytesLess a b=true\/a=b):a<=b:=by
 rcases h with h|h
 ·rw[Go.Proofs.bytesLess_eq,decide_eq_true_eq]at h;exact List.le_of_lt h
 ·rw[h];exact List.le_refl _
theorem pT{a b:A1}(h1:Op.bytesLess a b=false)(h2: ¬a=b): ¬a<=b:=λ h=>by
 rw[Go.Proofs.bytesLess_eq,decide_eq_false_iff_not]at h1
 exact h2 (List.le_antisymm h (List.not_lt.1 h1))
theorem AX2{t:Tm}(h:MX t=true)(ho:t.op=7\/t.op=8):t.many=1:=by
 unfold MX JM at h
 rw[if_neg (by omega),if_neg (by omega),if_neg (by omega),if_neg (by omega),if_neg (by omega),if_neg (by omega),if_pos ho]at h
 simp only[Bool.and_eq_true,beq_iff_eq]at h
 exact h.1.2
theorem AX3{o:Int}{x:Tf}{l:List Tf}(h: ¬(x.t.op==9)=(o==1)):FI o (x::l)=false:=by
 rw[FI]
 have e:(decide (x.t.op=9)==decide (o=1))=false:=by
  rw[beq_eq_false_iff_ne];intro q;exact h q
 rw[e];rfl
theorem AX4{o:Int}{x:Tf}{l:List Tf}(h:(¬o=2/\ ¬x.t.name=[])\/Lib.validD x.t.name=false):FI o (x::l)=false:=by
 rw[FI]
 rcases h with⟨h1,h2⟩|h
 ·have e1:decide (o=2)=false:=by simpa using h1
  have e2:decide (x.t.name=[])=false:=by simpa using h2
  rw[e1,e2];simp
 ·rw[h];simp
theorem AX5{o:Int}{x:Tf}{l:List Tf}(h:ED x=false):FI o (x::l)=false:=by rw[FI,h];simp
theorem AX6{o:Int}{x y:Tf}{l:List Tf}(h:o=2)(h2:y.t.name<=x.t.name):FI o (x::y::l)=false:=by
 rw[FI]
 have e:Q8 o x.t.name (y::l)=false:=by unfold Q8;simp[h,h2]
 rw[e];simp
theorem AX7{o:Int}{x:Tf}{l:List Tf}(h1:(x.t.op==9)=(o==1))(h2:o=2\/x.t.name=[])(h3:Lib.validD x.t.name=true)(h4:ED x=true)(h5:Q8 o x.t.name l=true):FI o (x::l)=FI o l:=by
 conv=>lhs;rw[FI]
 have e1:(decide (x.t.op=9)==decide (o=1))=true:=by rw[beq_iff_eq];exact h1
 have e2:(decide (o=2)||decide (x.t.name=[]))=true:=by simpa using h2
 rw[e1,e2,h3,h4,h5];simp
end Go.Eng
namespace Go.Proofs.YtmjpjbmeamnfpaaGreatDoor
open Go.Proofs.Tryz
open Go.Eng
theorem AX8: ∀(n:Nat) (u:Tf),u.flat.length<=n-> ∀ {w0 wv:World} {M0 M:Mem} {Rs:List HO} (v:Value) (f:Fl) (i:Int) (us:List Tf) (R:Fl),St w0 M0 wv M Rs->Gl w0->(B7 v f).ok M->EJ f i (u::us) R->i<=len f->F5 f->len f<=1099511627776->
    Calls prog 225 [v,i64 i].toArray wv (DT w0 M0 M Rs (λ _:Unit=>.tuple #[i64 (if ED u=true then i+len u.flat else 0),.bool (ED u)]) (λ _=>True) (λ _=>[]) λ _=>[]):=by
 intro n
 induction n with
 |zero=>intro u hu;have:=u.FU;unfold len at this;omega
 |succ n ih=>
 intro u hun w0 wv M0 M Rs v f i us R hS hg hl hat hif hsm hb
 obtain⟨hi1,hq,hat1⟩:=hat.step
 have hi0:=hat.1
 have hln:len u.ps=(u.ps.length:Int):=rfl
 have hule:=hat.OO hif
 have hfu:AM (u::us)=u.flat++AM us:=rfl
 rw[hfu,A5]at hule
 have hR0:=A4 R
 have hus0:=A4 (AM us)
 have hpg:=WL u.ps
 have hul:len u.flat=1+len (AM u.ps):=by rw[Tf.KC,A6];omega
 have hqm:(at' f i).many=len u.ps:=by rw[hq]
 have hqo:(at' f i).op=u.t.op:=by rw[hq]
 have hqs:(at' f i).s=u.t.s:=by rw[hq]
 have hsq:(at' f i).small:=hsm _ (UZ hi0 hi1)
 have hwt:ED u=(MX (at' f i)&&FI u.t.op u.ps&&Q7 u.t u.ps):=by rw[hq,pR]
 refine AU (Hr:=Rs) AP func225 U ntmps225 [(0,B7 v f)] [] [.sl 0 v,I i] U hS (CK hl AA) (λ B hB=>?_) U
 refine AY U (A0 U) (by omega) call256 U U (A0 U) (λ _ w M hX=>AX0 (at' f i) w M hX.st.sat (hg.low hX.st.low) hsq) U ?_
 refine A7 U (A0 U) (by simp only[zb]<;>omega) (λ hb1=>?_) (λ hb1=>?_)<;>simp only[zb]at hb1
 ·refine A9 hB U U (A0 U) U U (A0 U) λ w M' hX=>⟨(),M',?_,trivial,hX.le,hX.CQ [] U,AA⟩
  have e:ED u=false:=by
   rw[hwt]
   rcases hb1 with(h|h)|h
   · omega
   · rw[h];rfl
   · omega
  rw[e];rfl
 have hpl:=hb1.1.2
 rw[hpl,Bool.true_and]at hwt
 refine CU 6 U (A0 U) (by omega) zeroValue48 U λ b6=>?_
 refine CD (σ:=Int×Nat) (λ(j,k)=>⟨[(0,B7 v f)],[(6,.box b6 (LK (at' f i)) 48)],[Z 0 (.sl 0 v),Z 1 (I j),Z 6 (.bx 6 b6 0),Z 7 (I i),Z 46 (I (at' f i).many),Z 47 (I k)]⟩) (λ(j,k)=>EJ f j (u.ps.drop k++us) R/\k<=u.ps.length/\j<=len f/\FI u.t.op u.ps=FI u.t.op (u.ps.drop k)) (λ(j,k)=>u.ps.length-k) (i+1,0) U (A0 U) (by simp only[zb]<;>omega) U ⟨hat1,Nat.zero_le _,by omega,rfl⟩ ?_
 rintro⟨j,k⟩ ⟨hj,hk,hjl,hkk⟩
 have hj0:=hj.1
 refine A7 U (A0 U) (by simp only[zb]<;>omega) (λ hb2=>?_) (λ hb2=>?_)<;>simp only[zb]at hb2
 ·have hk2:k<u.ps.length:=by omega
  have hdc:=drop_cons hk2
  rw[hdc]at hj hkk
  obtain⟨x,hx⟩: ∃x,x=at' u.ps (k:Int):=⟨_,rfl⟩
  rw[<-hx]at hj hkk hdc
  have hj':EJ f j (x::(u.ps.drop (k+1)++us)) R:=hj
  obtain⟨hj1,hjq,_⟩:=hj'.step
  have hjn:(at' f j).name=x.t.name:=by rw[hjq]
  have hjo:(at' f j).op=x.t.op:=by rw[hjq]
  have hsx:(at' f j).small:=hsm _ (UZ hj0 hj1)
  refine J8 U (A0 U) U EM (by decide+kernel) ?_
  refine JA U (A0 U) (by simp only[zb]<;>omega) ?_
  refine A7 U (A0 U) (by simp only[zb]<;>omega) (λ hb3=>?_) (λ hb3=>?_)<;>simp only[zb]at hb3
  ·refine A9 hB U U (A0 U) U U (A0 U) λ w M' hX=>⟨(),M',?_,trivial,hX.le,hX.st.drop _ (List.sublist_append_right [_] _),AA⟩
   have e:ED u=false:=by
    rw[hwt,hkk,AX3 (by rw[hjo,hqo]at hb3;exact hb3.resolve_left (by omega))];rfl
   rw[e];rfl
  have h1:=hb3.2
  rw[hjo,hqo]at h1
  refine AY U (A0 U) (by omega) call257 U U (A0 U) (λ _ w M hX=>pH (at' f j).name w (hg.low hX.st.low) (by have:=hsx.name;omega)) U ?_
  refine A7 U (A0 U) U (λ hb4=>?_) (λ hb4=>?_)<;>simp only[zb]at hb4
  ·refine A9 hB U U (A0 U) U U (A0 U) λ w M' hX=>⟨(),M',?_,trivial,hX.le,hX.st.drop _ (List.sublist_append_right [_] _),AA⟩
   have e:ED u=false:=by
    rw[hwt,hkk,AX4 (by rw[hjn,hqo]at hb4;exact hb4)];rfl
   rw[e];rfl
  rw[hjn,hqo]at hb4
  have hxm:x∈u.ps:=by rw[hx];exact UZ (by omega) (by omega)
  have hxl:=jU hxm
  have hxp:=x.FU
  obtain⟨z,hz⟩: ∃z,z=if ED x=true then j+len x.flat else 0:=⟨_,rfl⟩
  have hz0:0<=z:=by rw[hz];split<;>omega
  refine BQ [] (λ _:Unit=>.tu [I z,.v (.bool (ED x))]) [] (λ _=>[]) (Fg:=λ _=>[]) (pu:=λ _=>True) U (A0 U) U U call225 U U (A0 U) U (λ w M hS hF=>by rw[hz];exact ih x (by unfold len at*;omega) v f j (u.ps.drop (k+1)++us) R hS hg (hF.get (k:=0) U) hj' (by omega) hsm hb) (λ _=>rfl) (λ _=>rfl) λ _ _=>?_
  have hjs:=hj'.skip
  have hjs2:=hj'.OO (by omega)
  have hfx:AM (x::(u.ps.drop (k+1)++us))=x.flat++AM (u.ps.drop (k+1)++us):=rfl
  rw[hfx,A5]at hjs2
  have hfn:=A4 (AM (u.ps.drop (k+1)++us))
  refine A7 U (A0 U) (by simp only[zb]<;>omega) (λ hb5=>?_) (λ hb5=>?_)<;>simp only[zb]at hb5
  ·refine A9 hB U U (A0 U) (by simp only[zb]<;>omega) U (A0 U) λ w M' hX=>⟨(),M',?_,trivial,hX.le,hX.st.drop _ (List.sublist_append_right [_] _),AA⟩
   have e:ED u=false:=by
    cases hwx:ED x with
    |false=>rw[hwt,hkk,AX5 hwx];rfl
    |true=>
     rw[hwx,if_pos U]at hz
     rcases hb5 with h|⟨⟨h2,h3⟩,h4⟩
     · rw[hwx]at h;cases h
     · have hk3:k+1<u.ps.length:=by omega
       have hd2:=drop_cons hk3
       rw[hd2]at hjs
       have hs3:=hjs.step
       rw[<-hz]at hs3
       have hle:(at' u.ps ((k+1:Nat):Int)).t.name<=x.t.name:=by
        rcases h4 with h|h
        · omega
        · rw[hs3.2.1,hjn]at h;exact pS h
       rw[hwt,hkk,hd2,AX6 (by rw[<-hqo];exact h2) hle];rfl
   rw[e];rfl
  ·have hwx:ED x=true:=hb5.1
   rw[hwx,if_pos U]at hz
   refine C7 (z,k+1) U (A0 U) (by simp only[zb]<;>omega) U ⟨by rw[hz];exact hjs,hk2,by omega,?_⟩ (by show u.ps.length-(k+1)<u.ps.length-k;omega)
   rw[hkk]
   refine AX7 h1 (by rcases Decidable.em (u.t.op=2)with h|h;exact .inl h;exact .inr (Decidable.byContradiction λ q=>(hb4.1.resolve_left h)|>λ r=>q r)) hb4.2 hwx ?_
   cases hd:u.ps.drop (k+1)with
   |nil=>rfl
   |cons y l=>
    have hk3:k+1<u.ps.length:=by
     rcases Nat.lt_or_ge (k+1) u.ps.length with h|h
     · exact h
     · rw[List.drop_of_length_le h]at hd;cases hd
    rw[hd]at hjs
    have hs3:=hjs.step
    rw[<-hz]at hs3
    have hy:y=at' u.ps ((k+1:Nat):Int):=by rw[drop_cons hk3]at hd;exact(List.cons.inj hd).1.symm
    unfold Q8
    rcases hb5.2 with h|⟨_,h4,h5⟩
    · rcases h with h|h
      · rw[hqo]at h;simp[h]
      · omega
    · rw[hs3.2.1,hjn]at h4 h5
      have:=pT h4 h5
      simp only[Bool.not_eq_true',Bool.and_eq_false_iff,decide_eq_false_iff_not]
      exact .inr this
 ·have hke:k=u.ps.length:=by omega
  subst hke
  rw[List.drop_length]at hj hkk
  have hj3:EJ f j us R:=hj
  have hjl2:=hj3.OO hjl
  have hje:j=i+len u.flat:=by omega
  have hkt:FI u.t.op u.ps=true:=by rw[hkk];rfl
  rw[hkt,Bool.true_and]at hwt
  refine A7 U (A0 U) (by simp only[zb]<;>omega) (λ hb6=>?_) (λ hb6=>?_)<;>simp only[zb]at hb6
  ·rw[hqo]at hb6
   have hm1:=AX2 hpl (by rw[hqo];exact hb6)
   obtain⟨x,hx⟩: ∃x,u.ps=[x]:=by
    match hps:u.ps,hqm with
    |[],h=>rw[h]at hm1;cases hm1
    |[x],_=>exact⟨x,rfl⟩
    |_::_::l,h=>rw[h]at hm1;simp only[A6]at hm1;have:=A4 l;omega
   have hul2:len u.flat=1+len x.flat:=by rw[hul,hx];show 1+len (x.flat++AM [])=_;simp[AM]
   rw[hx]at hat1
   have hat2:EJ f (i+1) (x::us) R:=hat1
   have hsub:=hat2.AX1
   rw[show i+1+len x.flat=j by omega]at hsub
   have hxl:=A4 x.flat
   have hrl:=pJ (at' f i).s
   refine BQ [] (λ u:Value=>.tu [.sl 9 u,.v (.bool (GU (at' f i).s).2)]) [9] (λ _=>[]) (Fg:=λ u=>[(1,kn u 3 (GU (at' f i).s).1 Sp.cells)]) U (A0 U) U U call258 U U (A0 U) U (λ w M hS hF=>pK (at' f i).s hS hg (by have:=hsq.s;omega)) (λ _=>rfl) (λ _=>rfl) λ u9 _=>?_
   refine PJ (gd:=none) 8 (i+1) j U (A0 U) (by omega) U (A0 U) U ⟨.i64,_,rfl,A0 U⟩ ⟨.i64,_,rfl,A0 U⟩ underlying36 sizeOf48 (by omega) U U λ v8=>?_
   rw[hsub]
   refine BQ [] (λ _:Unit=>.tu [I (D4 (GU (at' f i).s).1 x).1,.v (.bool (D4 (GU (at' f i).s).1 x).2)]) [] (λ _=>[]) (Fg:=λ _=>[]) (pu:=λ _=>True) U (A0 U) U U call259 U U (A0 U) U (λ w M hS hF=>AW9 (GU (at' f i).s).1 v8 u9 x hS (hF.get (k:=8) U) (hF.get (k:=9) U) (by omega) (by show len (H4 (at' f i).s).1<=_;omega)) (λ _=>rfl) (λ _=>rfl) λ _ _=>?_
   have hwl:ED u=(D4 (GU (at' f i).s).1 x).2:=by
    rw[hwt,hx,hqs]
    show(if u.t.op=7\/u.t.op=8 then(D4 (GU u.t.s).1 x).2 else true)=_
    rw[if_pos hb6]
   refine A7 U (A0 U) U (λ hb7=>?_) (λ hb7=>?_)<;>simp only[zb]at hb7
   ·refine A9 hB U U (A0 U) U U (A0 U) λ w M' hX=>⟨(),M',?_,trivial,hX.le,hX.st.drop _ (List.sublist_append_right [_] _),AA⟩
    rw[hwl,hb7];rfl
   ·refine A9 hB U U (A0 U) U U (A0 U) λ w M' hX=>⟨(),M',?_,trivial,hX.le,hX.st.drop _ (List.sublist_append_right [_] _),AA⟩
    rw[hwl,hb7,if_pos U,<-hje];rfl
  ·refine A9 hB U U (A0 U) U U (A0 U) λ w M' hX=>⟨(),M',?_,trivial,hX.le,hX.st.drop _ (List.sublist_append_right [_] _),AA⟩
   have e:ED u=true:=by
    rw[hwt]
    rw[hqo]at hb6
    unfold Q7
    split
    · rw[if_neg (by omega)]
    · rw[if_neg (by omega)]
   rw[e,if_pos U,<-hje];rfl
theorem AX9{w:World}{M:Mem}(v:Value)(x:Tf)(hM:Sat w M)(hg:Gl w)(hl:Sl M 11 x.flat.length v (x.flat.flatMap Tm.cells))(hb:len x.flat<=1048577)(hsm:F5 x.flat):
   Calls prog 176 [v].toArray w λ e w'=>e= .returned (.bool (F8 x))/\Ext w w':=by
 have hpos:=x.FU
 have hat:EJ x.flat 0 [x] []:=⟨by omega,by show x.flat=(x.flat++AM [])++[];simp[AM]⟩
 have hq:=x.WK
 refine AU (Hr:=[]) AP func176 U ntmps176 [(0,B7 v x.flat)] [] [.sl 0 v] U (Ak hM) (CK ⟨hl,Tm.B4,trivial⟩ AA) (λ B hB=>?_) U
 refine BQ [] (λ _:Unit=>.tu [I (if ED x=true then 0+len x.flat else 0),.v (.bool (ED x))]) [] (λ _=>[]) (Fg:=λ _=>[]) (pu:=λ _=>True) U (A0 U) U U call225 U U (A0 U) U (λ w M hS hF=>AX8 _ x (Nat.le_refl _) v x.flat 0 [] [] hS hg (hF.get (k:=0) U) hat (by omega) hsm (by omega)) (λ _=>rfl) (λ _=>rfl) λ _ _=>?_
 refine A9 hB U U (A0 U) (by simp only[zb]<;>omega) U (A0 U) λ w M hX=>⟨?_,hX.st.low⟩
 suffices e:F8 x=(ED x&&(if ED x=true then 0+len x.flat else 0)==len x.flat&&(at' x.flat 0).name==[]&&(at' x.flat 0).op != 9) by rw[e];rfl
 unfold F8
 rw[hq]
 cases h:ED x with
 |false=>rfl
 |true=>
  rw[if_pos U,Int.zero_add]
  simp only[Bool.true_and,beq_self_eq_true]
  congr 1
  ·rw[Bool.eq_iff_iff,beq_iff_eq];simp
  ·rw[Bool.eq_iff_iff,bne_iff_ne];simp
theorem Y4:NN F8:=λ v x hM hg hl hb hsm=>AX9 v x hM hg hl hb hsm
end Go.Proofs.YtmjpjbmeamnfpaaGreatDoor
namespace Go.Eng
open Go.RowKit
def At(s:A1)(i:Int)(u:A1):Prop:=0<=i/\i<=len s/\A3 s i=u
theorem At.add {s:A1}{i:Int}{u r:A1}(h:At s i (u++r)):At s (i+len u) r:=by
 obtain⟨h0,h1,h2⟩:=h
 have hl:=CO s i h0 h1
 rw[h2,A5]at hl
 have h3:=A4 u;have h4:=A4 r
 refine⟨by omega,by omega,?_⟩
 rw[<-IF s i (len u) h0 h3,h2]
 unfold A3 len;simp
theorem At.one {s:A1}{i:Int}{c:UInt8}{r:A1}(h:At s i (c::r)):At s (i+1) r:=At.add (u:=[c]) h
theorem At.lt {s:A1}{i:Int}{c:UInt8}{r:A1}(h:At s i (c::r)):i<len s:=by
 have hl:=CO s i h.1 h.2.1
 rw[h.2.2,A6]at hl
 have:=A4 r;omega
theorem At.byte {s:A1}{i:Int}{c:UInt8}{r:A1}(h:At s i (c::r)):A2 s i=(c.toNat:Int):=by
 obtain⟨b,h1,h2⟩:=J3 s i h.1 h.lt
 rw[h.2.2]at h1
 rw[h2,(List.cons.inj h1).1]
def Y5(r:A1):Prop:= ∀c r',r=c::r'->HV c=false
theorem At.blank {s:A1}{i:Int}{b r:A1}(h:At s i (b++r))(hb: ∀c∈b,HV c=true)(hr:Y5 r):BL s i=i+len b:=by
 unfold BL
 rw[h.2.2]
 have:(b++r).takeWhile HV=b:=by
  induction b with
  |nil=>
   cases r with
   |nil=>rfl
   |cons c r=>rw[List.nil_append,List.takeWhile_cons,hr c r U];rfl
  |cons a b ih=>
   rw[List.cons_append,List.takeWhile_cons,hb a List.mem_cons_self]
   show a::_=_
   have key: ∀(b r:A1),(∀c∈b,HV c=true)->Y5 r->(b++r).takeWhile HV=b:=by
    intro b
    induction b with
    |nil=>intro r _ hr;cases r with|nil=>rfl|cons c r=>rw[List.nil_append,List.takeWhile_cons,hr c r rfl];rfl
    |cons a b ih2=>intro r hb2 hr;rw[List.cons_append,List.takeWhile_cons,hb2 a List.mem_cons_self,if_pos rfl,ih2 r (λ c hc=>hb2 c (List.mem_cons_of_mem _ hc)) hr]
   rw[key b r (λ c hc=>hb c (List.mem_cons_of_mem _ hc)) hr]
 rw[this]
theorem At.AY0 {s:A1}{i:Int}{r:A1}(h:At s i r)(hr:Y5 r):BL s i=i:=by
 have:=At.blank (b:=[]) h (λ c hc=>by cases hc) hr
 rw[len_nil]at this;omega
def S8(m:A1)(i:Int):Tk:=⟨1,m,B2,i⟩
def UE(m:A1)(i:Int):Tk:=⟨2,m,B2,i⟩
theorem AY1{c:UInt8}(hc:c∈([40,41,91,93,123,125,58,44,124]:A1))(u:A1):AB (c::u)=(⟨1,[c],B2,0⟩,1,0):=by
 have key: ∀c∈([40,41,91,93,123,125,58,44,124]:A1),(c.toNat:Int)≠46/\BY (c::u)=[c]:=by
  intro c hc
  simp only[List.mem_cons,List.not_mem_nil,or_false]at hc
  rcases hc with rfl|rfl|rfl|rfl|rfl|rfl|rfl|rfl|rfl<;>exact⟨by decide,rfl⟩
 obtain⟨h1,h2⟩:=key c hc
 unfold AB
 rw[DO,if_neg (λ h=>h1 h.1),if_neg (λ h=>h1 h.1),h2,if_pos (by simp)]
 rfl
theorem AY2{u:A1}(h: ∀c r,u=c::r->E9 (c.toNat:Int)=false):AS u=[]:=by
 cases u with
 |nil=>exact I4 (by rw[AM4];decide)
 |cons c r=>exact I4 (by rw[DO];exact h c r U)
theorem pU{w u:A1}(hw:w≠[])(h0: ∀j:Int,0<=j->j<len w->BS (A2 w j) (j==0)=true)(hu: ∀c r,u=c::r->BS (c.toNat:Int) false=false):AS (w++u)=w:=by
 have hl:=G0 hw
 have hlu:=A4 u
 have e:CE (w++u) 0=len w:=by
  refine S4 (n:=len w) (by rw[A5];omega) (λ j h1 h2=>by rw[H3 h1 h2];exact h0 j h1 h2) (λ h=>?_) 0 (Int.le_refl _) (by omega)
  rw[nO (Int.le_refl _),Int.sub_self]
  cases u with
  |nil=>rw[A5,len_nil]at h;omega
  |cons c r=>rw[DO];rw[show(len w==0)=false from by simpa using(by omega:len w≠0)];exact hu c r U
 unfold AS
 rw[e,U7]
theorem AY3{c:UInt8}{w u:A1}(h0: ∀j:Int,0<=j->j<len (c::w)->BS (A2 (c::w) j) (j==0)=true)(hu: ∀c r,u=c::r->BS (c.toNat:Int) false=false):AB (c::w++u)=(⟨2,c::w,B2,0⟩,len (c::w),0):=by
 have hw:=pU (u:=u) (List.cons_ne_nil c w) h0 hu
 have hl:E9 (c.toNat:Int)=true:=by
  have:=h0 0 (Int.le_refl _) (by rw[A6];have:=A4 w;omega)
  rw[DO]at this
  unfold BS at this;simpa using this
 have hb:=cT hl
 have hm:BY (c::(w++u))=[]:=NP hb
 have h46: ¬(c.toNat:Int)=46:=by
  intro e
  have:c=46:=UInt8.toNat_inj.1 (by rw[show(46:UInt8).toNat=46 from rfl];omega)
  subst this;exact absurd hb (by decide)
 unfold AB
 rw[List.cons_append,DO,if_neg (λ h=>h46 h.1),if_neg (λ h=>h46 h.1),hm,if_neg (by simp)]
 rw[<-List.cons_append,hw,if_pos (by simp)]
theorem Lx.at {s:A1}{i:Int}{u r:A1}{t:Tk}{l:List Tk}(h:At s i (u++r))(hu:u≠[])(ht:AB (u++r)=(t,len u,0))(hl:Lx s (BL s (i+len u)) l):Lx s i ({ t with pos:=i}::l):=by
 have h1:=(At.add h).2.1
 have h2:=G0 hu
 have h3:=h.1
 refine .step (n:=len u) h3 (by omega) ?_ hl
 rw[h.2.2];exact ht
def TA(l:List Tk)(j:Int)(u:List Tk):Prop:=0<=j/\A3 l j=u
theorem TA.add {l:List Tk}{j:Int}{u r:List Tk}(h:TA l j (u++r)):TA l (j+len u) r:=by
 obtain⟨h0,h2⟩:=h
 have h3:=A4 u
 refine⟨by omega,?_⟩
 rw[<-IF l j (len u) h0 h3,h2]
 unfold A3 len;simp
theorem TA.at {l:List Tk}{j:Int}{t:Tk}{r:List Tk}(h:TA l j (t::r)):at' l j=t:=by
 obtain⟨h0,h1⟩:=h
 unfold at'
 have h2:(l.drop j.toNat)[0]? =some t:=by
  have:A3 l j=l.drop j.toNat:=rfl
  rw[<-this,h1];rfl
 rw[List.getElem?_drop,Nat.add_zero]at h2
 rw[List.getD_eq_getElem?_getD,h2];rfl
theorem TA.AG {l:List Tk}{j:Int}{t:Tk}{r:List Tk}(h:TA l j (t::r))(m:A1):AG l j m=(t.kind==1&&t.s==m):=by unfold Eng.AG;rw[h.at]
theorem AY4(u:A1):AB (63::u)=(⟨1,[63],B2,0⟩,1,0):=by
 have h1:(((63:UInt8).toNat:Nat):Int)≠46:=by decide
 have h2:BY (63::u)=[63]:=rfl
 unfold AB
 rw[DO,if_neg (λ h=>h1 h.1),if_neg (λ h=>h1 h.1),h2,if_pos (by simp)]
 rfl
end Go.Eng
namespace Go.Proofs.YtmjpjbmeamnfpaaGreatDoor
open Go.Proofs.Tryz
open Go.Eng
abbrev OY:A1:=[123,98,58,32,115,116,114,44,32,97,58,32,110,117,109,124,110,117,108,108,40,33,61,32,51,41,44,32,63,125]
abbrev pV:A1:=[91,110,117,109,44,32,115,116,114,93]
abbrev Q9:A1:=[115,111,114,116,101,100,40,46,107,44,32,123,107,58,32,110,117,109,125,41]
theorem AY5:(F1 AE F8 OY).2=(0,0)/\len (F1 AE F8 OY).1=4/\(at' (F1 AE F8 OY).1 1).name=[97]/\(at' (F1 AE F8 OY).1 1).n=9/\(at' (F1 AE F8 OY).1 0).n=1:=by decide+kernel
theorem AY6:F1 AE F8 pV=([],4,1):=by decide+kernel
theorem AY7:(F1 AE F8 Q9).2.2=0/\len (F1 AE F8 Q9).1=3/\(at' (F1 AE F8 Q9).1 0).s=[46,107]:=by decide+kernel
theorem dR(w:World)(hg:Gl w):
  Calls prog 16 [].toArray w λ e w'=>e= .returned (.bool true)/\Ext w w':=by
 obtain⟨a1,a2,a3,a4,a5⟩:=AY5
 obtain⟨c1,c2,c3⟩:=AY7
 obtain⟨z1,hz1⟩: ∃z,z=(F1 AE F8 OY).1:=⟨_,rfl⟩
 obtain⟨z3,hz3⟩: ∃z,z=(F1 AE F8 Q9).1:=⟨_,rfl⟩
 obtain⟨y3,hy3⟩: ∃z,z=(F1 AE F8 Q9).2.1:=⟨_,rfl⟩
 have e1:F1 AE F8 OY=(z1,0,0):=by rw[hz1];exact Prod.ext U a1
 have e3:F1 AE F8 Q9=(z3,y3,0):=by rw[hz3,hy3];exact Prod.ext U (Prod.ext U c1)
 rw[<-hz1]at a2 a3 a4 a5
 rw[<-hz3]at c2 c3
 refine AU AP func16 U ntmps16 [] [] [] U (G7 w) AA (λ B hB=>?_) U
 refine IL (λ h:AX=>.tu [.sl 1 h.v,I 0,I 0]) [1] U (A0 U) U U call17 U U (A0 U) (λ w M hX=>by have:=XU Y4 OY w M hX.st.sat (hg.low hX.st.low) (by decide);rw[e1]at this;exact this) (λ _=>rfl) λ h1 _=>?_
 refine IL (λ h:AX=>.tu [.sl 2 h.v,I 4,I 1]) [2] U (A0 U) U U call17 U U (A0 U) (λ w M hX=>by have:=XU Y4 pV w M hX.st.sat (hg.low hX.st.low) (by decide);rw[AY6]at this;exact this) (λ _=>rfl) λ h2 _=>?_
 refine IL (λ h:AX=>.tu [.sl 3 h.v,I y3,I 0]) [3] U (A0 U) U U call17 U U (A0 U) (λ w M hX=>by have:=XU Y4 Q9 w M hX.st.sat (hg.low hX.st.low) (by decide);rw[e3]at this;exact this) (λ _=>rfl) λ h3 _=>?_
 refine A9 hB U U (A0 U) (by simp only[zb]<;>omega) U (A0 U) λ w M hX=>⟨?_,hX.st.low⟩
 dsimp only
 rw[a2,a3,a4,a5,c2,c3];rfl
end Go.Proofs.YtmjpjbmeamnfpaaGreatDoor
namespace Go.Eng
def Sm{α:Type}(b:Bool)(o:Int)(r r':PR α):Prop:=
 (∀x j,r= .ok x j->r'= .ok x (j+o)\/(b=true/\ ∃p,r'= .er 3 p))/\(b=false-> ∀p,r= .er 3 p-> ∃p',r'= .er 3 p')
theorem Sm.ok {α:Type}{b:Bool}{o:Int}{x:α}{j j':Int}(h:j'=j+o):Sm b o (.ok x j) (.ok x j'):=
 ⟨λ y k e=>(by cases e;subst h;exact .inl rfl),λ _ p e=>(by cases e)⟩
theorem Sm.fail {α:Type}{b:Bool}{o:Int}{l:List Tk}{i:Int}{r':PR α}:Sm b o (D0 l i 1) r':=
 ⟨λ y k e=>(by cases e),λ _ p e=>(by cases e)⟩
theorem Sm.bind {α β:Type}{b:Bool}{o:Int}{r r':PR α}{k k':α->Int->PR β}(h:Sm b o r r')(hk: ∀x j,r= .ok x j->Sm b o (k x j) (k' x (j+o))):Sm b o (r.bind k) (r'.bind k'):=by
 cases r with
 |er c p=>
  refine⟨λ y m e=>(by cases e),λ hb p2 e=>?_⟩
  have e2:PR.er (α:=α) c p= .er 3 p2:=by cases e;rfl
  obtain⟨p',h2⟩:=h.2 hb p2 e2
  exact⟨p',by rw[h2];rfl⟩
 |ok x j=>
  rcases h.1 x j rfl with h2|⟨hb,p,h2⟩
  ·rw[h2];exact hk x j U
  ·rw[h2];exact⟨λ y m e=>.inr ⟨hb,p,rfl⟩,λ hb2=>by rw[hb]at hb2;cases hb2⟩
structure Vw (l l':List Tk) (o:Int):Prop where
 eq: ∀i,0<=i->i<len l->(at' l i).kind≠6->(at' l' (i+o)).kind=(at' l i).kind/\(at' l' (i+o)).s=(at' l i).s/\(at' l' (i+o)).c=(at' l i).c
 en: ∀i,0<=i->i<len l->(at' l i).kind=6->(at' l' (i+o)).kind=6\/((at' l' (i+o)).kind=1/\(at' l' (i+o)).s=[41])
 few:l.length<=l'.length
section
variable {l l':List Tk} {o:Int} (hl:EO l) (v:Vw l l' o) {b:Bool} {i:Int} (h0:0<=i) (h1:i<len l)
include v h0 h1
theorem Vw.AG {m:A1}(hm:m≠[41]):AG l' (i+o) m=AG l i m:=by
 unfold Go.Eng.AG
 by_cases h:(at' l i).kind=6
 ·have h2:((at' l i).kind==1)=false:=by rw[h];rfl
  rw[h2,Bool.false_and]
  rcases v.en i h0 h1 h with h3|⟨h3,h4⟩
  ·have:((at' l' (i+o)).kind==1)=false:=by rw[h3];rfl
   rw[this,Bool.false_and]
  ·have:((at' l' (i+o)).s==m)=false:=by rw[h4,beq_eq_false_iff_ne];exact λ e=>hm e.symm
   rw[this,Bool.and_false]
 ·obtain⟨h2,h3,_⟩:=v.eq i h0 h1 h
  rw[h2,h3]
theorem Vw.UF {m:A1}(hm:Go.Eng.AG l i m=true):Go.Eng.AG l' (i+o) m=true:=by
 have h:(at' l i).kind≠6:=λ e=>by unfold Go.Eng.AG at hm;rw[e]at hm;simp at hm
 obtain⟨h2,h3,_⟩:=v.eq i h0 h1 h
 unfold Go.Eng.AG at hm ⊢
 rw[h2,h3];exact hm
theorem Vw.kind {k:Int}(hk:k≠1/\k≠6):((at' l' (i+o)).kind=k)=((at' l i).kind=k):=by
 by_cases h:(at' l i).kind=6
 ·rw[h]
  rcases v.en i h0 h1 h with h3|⟨h3,_⟩
  ·rw[h3]
  ·rw[h3];exact propext ⟨λ e=>(hk.1 e.symm).elim,λ e=>(hk.2 e.symm).elim⟩
 ·rw[(v.eq i h0 h1 h).1]
theorem Vw.tok {k:Int}(hk:k≠6)(h:(at' l i).kind=k):(at' l' (i+o)).kind=k/\(at' l' (i+o)).s=(at' l i).s/\(at' l' (i+o)).c=(at' l i).c:=by
 have:=v.eq i h0 h1 (by rw[h];exact hk)
 rw[h]at this;exact this
theorem Sm.FX {m:A1}:Sm b o (B6 l i m) (B6 l' (i+o) m):=by
 unfold B6
 by_cases h:Go.Eng.AG l i m=true
 ·rw[if_pos h,if_pos (v.UF h0 h1 h)];exact .ok (by omega)
 ·rw[if_neg h];exact .fail
theorem Sm.op {m:A1}{d d':Int}(hd:b=false->d=d'):Sm b o (EA l d i m) (EA l' d' (i+o) m):=by
 unfold EA
 by_cases h:Go.Eng.AG l i m=true
 ·have h':=v.UF h0 h1 h
  rw[h,h',Bool.true_and,Bool.true_and]
  by_cases h6:64<=d
  ·rw[if_pos (decide_eq_true h6)]
   refine⟨λ x j e=>(by cases e),λ hb p e=>?_⟩
   rw[<-hd hb,if_pos (decide_eq_true h6)];exact⟨_,rfl⟩
  ·rw[if_neg (by simpa using h6)]
   by_cases h7:64<=d'
   ·rw[if_pos (decide_eq_true h7)]
    cases b with
    |true=>exact⟨λ x j e=>.inr ⟨rfl,_,rfl⟩,λ hb=>(by cases hb)⟩
    |false=>exact(h6 (by rw[hd U];exact h7)).elim
   ·rw[if_neg (by simpa using h7)];exact Sm.FX v h0 h1
 ·have h2:Go.Eng.AG l i m=false:=by simpa using h
  rw[h2,Bool.false_and,if_neg (by simp)]
  unfold B6;rw[if_neg h];exact .fail
theorem Sm.whole:Sm b o (EZ l i) (EZ l' (i+o)):=by
 by_cases h:(at' l i).kind=5
 ·obtain⟨h2,_,h3⟩:=v.tok h0 h1 (by decide) h
  have e:IG (at' l' (i+o))=IG (at' l i):=by unfold IG;rw[h3]
  unfold EZ
  rw[h2,h,h3,e]
  split
  ·exact .fail
  ·split
   ·exact .fail
   ·exact .ok (by omega)
 ·unfold EZ;rw[if_pos (.inl h)];exact .fail
include hl
end
section
variable {l l':List Tk} {o:Int} (hl:EO l) (v:Vw l l' o) (b:Bool) (q:A1->A1)
end
abbrev pW:List A1:=[[41],[93],[125],[44]]
structure Vy (l l':List Tk) (o:Int):Prop where
 eq: ∀i,0<=i->i<len l->(at' l i).kind≠6->(at' l' (i+o)).kind=(at' l i).kind/\(at' l' (i+o)).s=(at' l i).s/\(at' l' (i+o)).c=(at' l i).c
 en: ∀i,0<=i->i<len l->(at' l i).kind=6->(at' l' (i+o)).kind=6\/((at' l' (i+o)).kind=1/\(at' l' (i+o)).s∈pW)
 few:l.length<=l'.length
section
variable {l l':List Tk} {o:Int} (hl:EO l) (v:Vy l l' o) {b:Bool} {i:Int} (h0:0<=i) (h1:i<len l)
include v h0 h1
theorem Vy.AG {m:A1}(hm:m ∉ pW):AG l' (i+o) m=AG l i m:=by
 unfold Go.Eng.AG
 by_cases h:(at' l i).kind=6
 ·have h2:((at' l i).kind==1)=false:=by rw[h];rfl
  rw[h2,Bool.false_and]
  rcases v.en i h0 h1 h with h3|⟨h3,h4⟩
  ·have:((at' l' (i+o)).kind==1)=false:=by rw[h3];rfl
   rw[this,Bool.false_and]
  ·have:((at' l' (i+o)).s==m)=false:=by rw[beq_eq_false_iff_ne];exact λ e=>hm (e▸h4)
   rw[this,Bool.and_false]
 ·obtain⟨h2,h3,_⟩:=v.eq i h0 h1 h
  rw[h2,h3]
theorem Vy.UF {m:A1}(hm:Go.Eng.AG l i m=true):Go.Eng.AG l' (i+o) m=true:=by
 have h:(at' l i).kind≠6:=λ e=>by unfold Go.Eng.AG at hm;rw[e]at hm;simp at hm
 obtain⟨h2,h3,_⟩:=v.eq i h0 h1 h
 unfold Go.Eng.AG at hm ⊢
 rw[h2,h3];exact hm
theorem Vy.tok {k:Int}(hk:k≠6)(h:(at' l i).kind=k):(at' l' (i+o)).kind=k/\(at' l' (i+o)).s=(at' l i).s/\(at' l' (i+o)).c=(at' l i).c:=by
 have:=v.eq i h0 h1 (by rw[h];exact hk)
 rw[h]at this;exact this
theorem Sy.FX {m:A1}:Sm b o (B6 l i m) (B6 l' (i+o) m):=by
 unfold B6
 by_cases h:Go.Eng.AG l i m=true
 ·rw[if_pos h,if_pos (v.UF h0 h1 h)];exact .ok (by omega)
 ·rw[if_neg h];exact .fail
theorem Sy.op {m:A1}{d d':Int}(hd:b=false->d=d'):Sm b o (EA l d i m) (EA l' d' (i+o) m):=by
 unfold EA
 by_cases h:Go.Eng.AG l i m=true
 ·have h':=v.UF h0 h1 h
  rw[h,h',Bool.true_and,Bool.true_and]
  by_cases h6:64<=d
  ·rw[if_pos (decide_eq_true h6)]
   refine⟨λ x j e=>(by cases e),λ hb p e=>?_⟩
   rw[<-hd hb,if_pos (decide_eq_true h6)];exact⟨_,rfl⟩
  ·rw[if_neg (by simpa using h6)]
   by_cases h7:64<=d'
   ·rw[if_pos (decide_eq_true h7)]
    cases b with
    |true=>exact⟨λ x j e=>.inr ⟨rfl,_,rfl⟩,λ hb=>(by cases hb)⟩
    |false=>exact(h6 (by rw[hd U];exact h7)).elim
   ·rw[if_neg (by simpa using h7)];exact Sy.FX v h0 h1
 ·have h2:Go.Eng.AG l i m=false:=by simpa using h
  rw[h2,Bool.false_and,if_neg (by simp)]
  unfold B6;rw[if_neg h];exact .fail
end
section
variable {l l':List Tk} {o:Int} (hl:EO l) (v:Vy l l' o) {b:Bool}
include hl v
end
open Go.RowKit
section eK
variable {a b:A1}
theorem pX(v:A1): ∀u:A1,BL (u++v) 0=if BL u 0<len u then BL u 0 else len u+BL v 0
 |[]=>by rw[AN3,len_nil];simp
 |x::u=>by
  rw[List.cons_append]
  have hl:=A4 u
  cases hx:J1 (x.toNat:Int)with
  |true=>
   have:=pX v u
   rw[nX hx,nX hx,this,A6]
   by_cases h:BL u 0<len u
   ·rw[if_pos h,if_pos (by omega)]
   ·rw[if_neg h,if_neg (by omega)];omega
  |false=>rw[nY hx,nY hx,if_pos (by rw[A6];omega)]
def AY8(k:Int)(t:Tk):Tk:= { t with pos:=k+t.pos}
end eK
section V5
variable {p s q:A1}
abbrev QA(p s q:A1):A1:=p++(s++q)
theorem AY9:len (QA p s q)=len p+len s+len q:=by rw[A5,A5];omega
theorem dS{i:Int}(h0:0<=i)(h1:i<=len s):A3 (QA p s q) (len p+i)=A3 s i++q:=by
 rw[<-IF _ (len p) i (A4 p) h0,U6,AM5 h0 h1]
abbrev UG(p s q:A1):Int:=BL (QA p s q) (len p+len s)
theorem AZ0:UG p s q=len p+len s+BL q 0:=by
 have hp:=A4 p;have hs:=A4 s
 unfold UG
 rw[cX (by omega),dS hs (Int.le_refl _),show A3 s (len s)=[]from O6 s _ (Int.le_refl _),List.nil_append]
theorem AZ1{k:Int}(h0:0<=k)(h1:k<=len s):BL (QA p s q) (len p+k)=if BL s k<len s then len p+BL s k else UG p s q:=by
 have hp:=A4 p
 have hl:=CO s k h0 h1
 rw[AZ0,cX (by omega),dS h0 h1,pX,cX (s:=s) h0,hl]
 by_cases h:BL (A3 s k) 0<len s-k
 ·rw[if_pos h,if_pos (by omega)];omega
 ·rw[if_neg h,if_neg (by omega)];omega
theorem AZ2(hq:q=[]\/KH (A2 q 0)=true){i n:Int}{t:Tk}(h0:0<=i)(h1:i<len s)(h:AB (A3 s i)=(t,n,0)):AB (A3 (QA p s q) (len p+i))=(t,n,0):=by
 obtain⟨u,v,e,hn,hu,_,_,ht⟩:=AN5 h0 h1 h
 rw[dS h0 (by omega),e,List.append_assoc,<-hn]
 refine cW hu ht ?_
 cases v with
 |nil=>
  rcases hq with rfl|hq
  ·exact .inl U
  ·cases q with
   |nil=>exact .inl U
   |cons c r=>exact .inr (.inl ⟨by simp,hq⟩)
 |cons c r=>exact .inr (.inr ⟨by simp,by simp,rfl⟩)
theorem Lx.V5 (hq:q=[]\/KH (A2 q 0)=true){m:List Tk}(hm:Lx (QA p s q) (UG p s q) m){i:Int}{l:List Tk}(h:Lx s i l):Lx (QA p s q) (if i<len s then len p+i else UG p s q) (l.map (AY8 (len p))++m):=by
 have hp:=A4 p
 induction h with
 |done h0 h1=>rw[if_neg h1];exact hm
 | @step i n t l h0 h1 h _ ih=>
  have hb:=OT h0 h1 h
  rw[if_pos h1]
  refine Lx.step (t:=t) (n:=n) (by omega) (by rw[AY9];have:=A4 q;omega) (AZ2 hq h0 h1 h) ?_
  rw[show len p+i+n=len p+(i+n)from by omega,AZ1 (by omega) hb.2.1];exact ih
end V5
end Go.Eng
