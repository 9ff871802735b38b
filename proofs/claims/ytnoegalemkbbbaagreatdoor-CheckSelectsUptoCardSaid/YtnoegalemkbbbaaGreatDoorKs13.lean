/- Lemmas for the card. -/
import Derived.Test.YtnoegalemkbbbaaGreatDoorKs12
set_option linter.unusedVariables false
set_option linter.unusedSimpArgs false
set_option maxRecDepth 100000
namespace Go.Eng
open Go.RowKit
def cw(c:Cx):Cx:= { c with W:=Wk.wide c.P}
section
variable {c:Cx} {B:Exit->Act->World->Prop} {k k':List Fr} {m:Md} {s s':XS} {O:Prop} {E:List Ck} {l:List Oper}
theorem AY9{a:Act}{w:World}(h:HJ c s a w):HJ (cw c) s a w:=let⟨h1,M,h2⟩:=h;⟨h1,M,h2.st,h2.f,h2.le⟩
theorem AZ0{a:Act}{w:World}(h:HJ (cw c) s a w):HJ c s a w:=let⟨h1,M,h2⟩:=h;⟨h1,M,h2.st,h2.f,h2.le⟩
theorem qA(es:List Nat)(n:Nat){id:Nat}(h:run c.T c.N k m s=⟨k',.code (.region id ⟨l⟩ true),s',O,E⟩)(hm:c.P.follows .mixedOrders=true)(b:(W6 l []&&F5 (λ e=>Nat.blt e l.length) es)=true)(i:DG (cw c) (post c B k') [] l es n [] [] [] [] s')(hE:A9 E:=by exact Ad)(hO:O:=by exact Af):XG c B k m s:=by
 rw[Bool.and_eq_true]at b
 exact CL h hE hO λ a w hs=>c.W.drawS (kU (c:=cw c) (B:=post c B k') (k:=[]) (id:=id) es n (λ _ _ _ _ _ h=>h) hm b.1 b.2 i (AY9 hs))
theorem fG(h:XG c B k .next s):XG (cw c) (post c B k) [] .next s:=λ a w hs=>h a w (AZ0 hs)
end
def YS(c:Cx)(Js:XS->Prop):Exit->Act->World->Prop
 | .ret,a,w=> ∃s,Js s/\HJ c s a w
 |_,_,_=>False
theorem AZ1{c:Cx}{b:XS->Prop}: ¬LetsOut (YS c b):=λ⟨_,_,h⟩=>h
theorem V6{c:Cx}{k:List Fr}{m:Md}{s s':XS}{O:Prop}{E:List Ck}{b:XS->Prop}(s2:XS)(h:run c.T c.N k m s=⟨[],.ret,s',O,E⟩)(h0:(⟨J0 s2.F s'.F,J1 s2.H s'.H,G8 (keys s2.L) s'.L⟩:XS)=s2)(e:b s2)(hE:A9 E:=by exact Ad)(hO:O:=by exact Af):XG c (YS c b) k m s:=
 CL h hE hO λ a w hs=>⟨s2,e,hs.sub (XS.MN h0)⟩
def SG(P:Program)(gf:FuncId)(lb:List Value)(n:Nat)(w0:World)(M0:Mem)(Rs:List HO){τ:Type}(av:Nat->τ->List XV)(pa:Nat->τ->Prop)(FA:Nat->τ->List (Nat×Kn))(w:World)(M:Mem):Prop:=
 ∀(γ:Type) (ub:γ->Bool) (I:Nat->γ->Prop) (J:γ->Prop) (Hy:γ->List HO) (Fy:γ->List (Nat×Kn)) (l:Nat) (g0:γ),(∃x1 x2 x3 x4 x5:γ->HO,∀g,Hy g=[x1 g,x2 g,x3 g,x4 g,x5 g])->St w0 M0 w M (Hy g0++Rs)->BI M (Fy g0)->I 0 g0->
  (∀k g y w' M',k<n->I k g->pa k y->St w0 M0 w' M' (Hy g++Rs)->M.le M'->BI M' (FA k y)->BI M' (Fy g)->
   WR P l ((av k y).map XV.d).toArray w' (BF w0 M0 M' Rs (λ g:γ=>.bool (ub g)) (λ g=>if ub g=true then I (k+1) g else J g) Fy Hy))->
  Calls P gf (.func (.yield l) #[] #[]::lb).toArray w (BF w0 M0 M Rs (λ _:γ=>.tuple #[]) (λ g=>I n g\/J g) Fy Hy)
theorem fH{c:Cx}{B:Exit->Act->World->Prop}{k k':List Fr}{m:Md}{s s':XS}{O:Prop}{E:List Ck}{σ τ:Type}(j:σ->XS)(I:Nat->σ->Prop)(J:σ->Prop)(g0:σ){gop:Operand}{ps:List Tmp}{assign body:Code}{gf:FuncId}{lb:List Value}{n:Nat}{av:Nat->τ->List XV}{pa:Nat->τ->Prop}{FA:Nat->τ->List (Nat×Kn)}{E1:List Ck}(Sa:Nat->σ->τ->XS->Prop)
  (hw: ∀x Q a w,x.wp c.P Q a w->c.W.wp x Q a w) (h:run c.T c.N k m s=⟨k',.code (.rangeFunc gop ⟨ps⟩ assign body),s',O,E⟩)
  (hg:BB s'.L .t gop=some (.v (.func (.func gf) #[] ⟨lb⟩),E1)) (ct:CT c.P gf)
  (h0:(⟨J0 (j g0).F s'.F,J1 (j g0).H s'.H,G8 (keys (j g0).L) s'.L⟩:XS)=j g0) (hI:I 0 g0) (hL: ∀g,(j g).L=(j g0).L)
  (hH: ∃x1 x2 x3 x4:σ->HO,∀g,HD (j g).H=[x1 g,x2 g,x3 g,x4 g]) (hit: ∀w M D w',CZ c s'.F s'.H w M->SG c.P gf lb n c.w0 c.M0 (.raw D CB::c.Hr) av pa FA w' M)
  (hps: ∀k y,NV c.N ps (av k y)=true)
  (ha: ∀k g y l D r M,k<n->I k g->pa k y->XG (cR c l D r M) nB [.loop (Sa k g y)] (.code assign) ⟨FA k y++(j g).F,(j g).H,pz ps (av k y) (j g).L⟩) (hsa:D6 assign=true)
  (hb: ∀k g y l D r M,k<n->I k g->pa k y-> ∀t,Sa k g y t->XG (cR c l D r M) (YS (cR c l D r M) (λ t=> ∃g',t=j g'/\J g')) [.loop (λ t=> ∃g',t=j g'/\I (k+1) g')] (.code body) t) (hsb:D6 body=true)
  (hn: ∀D g a w,I n g->AZ a c.N (j g).L.d->(∃M,St c.w0 c.M0 w M (HD (j g).H++(.raw D CB::c.Hr))/\BI M (j g).F/\c.M1.le M)->post c B k' .normal (CR [⟨.collected D,#[]⟩] a) w)
  (hr: ∀D g a w,J g->AZ a c.N (j g).L.d->(∃M,St c.w0 c.M0 w M (HD (j g).H++(.raw D CB::c.Hr))/\BI M (j g).F/\c.M1.le M)->post c B k' .ret (CR [⟨.collected D,#[]⟩] a) w) (hE:A9 E:=by exact Ad) (hO:O:=by exact Af) (hE1:A9 E1:=by exact Ad):XG c B k m s:=by
 refine CL h hE hO λ a w hs=>?_
 obtain⟨hsl,M,hX⟩:=hs
 have hX0:=hX.sub (XS.MN h0)
 have R:=bH hsl (XS.MN h0).1
 refine hw _ _ _ _ ((wpIn_wide (n:=1)).1 (wpIn_rangeFunc λ fn _=>?_))
 obtain⟨rec,i⟩: ∃rec:LoopState->Option Code->Loop,rec=λ st pe=> { state:=st,pending:=pe,fn,tmps:=a.tmps,params:=⟨ps⟩,assign,body,defers:=w.heap.size}:=⟨_,rfl⟩
 obtain⟨rc,hrc⟩: ∃rc:Bool->Obj,rc=λ b=>if b=true then .loop (rec .ready none)else .loop (rec .done (some .ret)):=⟨_,rfl⟩
 have hrt:rc true= .loop (rec .ready none):=by rw[hrc];rfl
 have hrf:rc false= .loop (rec .done (some .ret)):=by rw[hrc];rfl
 have hS1:=(hX0.st.NN CB).NN (rc true)
 rw[World.size_alloc]at hS1
 have hS2:=hS1.perm kO
 have hgv:a.eval gop= .func (.func gf) #[] ⟨lb⟩:=A7 hg (hE:=hE1) a c.N hsl U
 have pass: ∀(b:Bool) (x:Obj),∀ {A:List HO},(A++[HO.raw (w.heap.size+1) x])++(.raw w.heap.size CB::c.Hr)=A++(.raw (w.heap.size+1) x:: .raw w.heap.size CB::c.Hr):=λ _ _ _=>by simp
 refine⟨w.heap.size+1,[⟨.collected w.heap.size,#[]⟩],(w.alloc CB).alloc (rc true),⟨.fn (.func gf) ⟨lb⟩,#[.func (.yield (w.heap.size+1)) #[] #[]]⟩,(w.alloc CB).alloc (rc true),gf,
  (.func (.yield (w.heap.size+1)) #[] #[]::lb).toArray,(w.alloc CB).alloc (rc true),by rw[hrt,i];exact run_enterLoop_outer _ _ _ _ _,?_,λ _ _=>trivial,?_,(λ h=>by cases h),callsIn_wide.2 ?_⟩
 ·simp only[resolve,hgv]
  simp[go_sem]
 ·simp[invoke,go_sem,ct]
 ·obtain⟨x1,x2,x3,x4,hx⟩:=hH
  refine(hit w M _ _ hX (Bool×σ) (λ g=>g.1) (λ k g=>g.1=true/\I k g.2) (λ g=>g.1=false/\J g.2) (λ g=>HD (j g.2).H++[.raw (w.heap.size+1) (rc g.1)]) (λ g=>(j g.2).F) (w.heap.size+1) (true,g0)
   ⟨λ g=>x1 g.2,λ g=>x2 g.2,λ g=>x3 g.2,λ g=>x4 g.2,λ g=>.raw (w.heap.size+1) (rc g.1),λ g=>by rw[hx];rfl⟩ (by rw[pass true];exact hS2) hX0.f ⟨rfl,hI⟩ λ kk g y w' M' hk S hp hS hle hFA hF=>?_).mono ?_
  ·obtain⟨gb,g⟩:=g
   obtain⟨K,S⟩:=S
   dsimp only at K S hF
   subst K
   dsimp only at hS
   rw[pass true,hrt]at hS
   have hi:(HD (j g).H++(HO.raw (w.heap.size+1) (.loop (rec .ready none)):: .raw w.heap.size CB::c.Hr))[(HD (j g).H).length]? =some (.raw (w.heap.size+1) (.loop (rec .ready none))):=by simp
   have hl:=(hS.obj hi).2.1
   have hz:=bW ps (av kk y) (L:=(j g).L) (a:=a) (hps kk y) (by rw[hL];exact R)
   have hy:=run_yield (P:=c.P) (args:=((av kk y).map XV.d).toArray) hl (by rw[i];simp[bY (hps kk y)])
   refine⟨_,_,_,_,hy,roundIn_of_wpIn trivial ?_⟩
   have h1:=ha kk g y (w.heap.size+1) w.heap.size (.loop (rec .ready none)) M' hk S hp _ w' ⟨hz,M',hS,hFA.app hF,Mem.le.refl _⟩
   have h2:=h1 (R9 bX) hsa
   rw[i]
   dsimp only
   refine wpIn_mono (F:=FR (some (w.heap.size+1))) (by simpa using h2) λ e a1 w1 q=>?_
   cases e with
   |normal=>
    obtain⟨sa,hsa',hsat⟩:=q
    obtain⟨hl1,hsat1⟩:=UA (r':=.loop { rec .ready none with state:=.busy}) hsat
    refine⟨_,run_beginRound hl1 (by rw[i]),?_⟩
    have h4:=hb kk g y (w.heap.size+1) w.heap.size (.loop { rec .ready none with state:=.busy}) M' hk S hp sa hsa' a1 _ hsat1 (R9 AZ1) hsb
    refine wpIn_mono (F:=FR (some (w.heap.size+1))) h4 λ e a3 w3 q=>?_
    cases e with
    |normal=>
     obtain⟨sb,⟨g',rfl,hI'⟩,z⟩:=q
     obtain⟨hl3,C⟩:=UA (r':=rc true) z
     have hr:=run_endRound (P:=c.P) none hl3
     refine⟨_,_,hr,?_⟩
     obtain⟨_,M3,hS6,hF6,V⟩:=C
     refine⟨(true,g'),M3,rfl,⟨rfl,hI'⟩,V,?_,hF6⟩
     dsimp only
     rw[pass true]
     have e1:Obj.loop { { rec .ready none with state:=.busy}with state:=if(none:Option Code).isNone=true then LoopState.ready else LoopState.done,pending:=none}=rc true:=by rw[hrt,i];rfl
     rw[e1];exact hS6
    |ret=>
     obtain⟨sb,⟨g',rfl,hJ'⟩,z⟩:=q
     obtain⟨hl3,C⟩:=UA (r':=rc false) z
     have hr:=run_endRound (P:=c.P) (some .ret) hl3
     refine⟨_,_,hr,?_⟩
     obtain⟨_,M3,hS6,hF6,V⟩:=C
     refine⟨(false,g'),M3,rfl,⟨rfl,hJ'⟩,V,?_,hF6⟩
     dsimp only
     rw[pass true]
     have e1:Obj.loop { { rec .ready none with state:=.busy}with state:=if(some Code.ret:Option Code).isNone=true then LoopState.ready else LoopState.done,pending:=some .ret}=rc false:=by rw[hrf,i];rfl
     rw[e1];exact hS6
    |_=>exact q.elim
   |_=>exact q.elim
  ·rintro e W2 ⟨⟨gb,g⟩,M',rfl,hIn,hle,hS3,hF3⟩
   dsimp only at hIn hS3 hF3
   rw[pass true]at hS3
   have hi:(HD (j g).H++(HO.raw (w.heap.size+1) (rc gb):: .raw w.heap.size CB::c.Hr))[(HD (j g).H).length]? =some (.raw (w.heap.size+1) (rc gb)):=by simp
   have hl:=(hS3.obj hi).2.1
   have hd:a.defers=[]:=hsl.DX
   have hupd: ∀a':Act,a'.defers=[]->CR [⟨.collected w.heap.size,#[]⟩] a'= { a' with defers:=[⟨.collected w.heap.size,#[]⟩]++a'.defers}:=λ a' h=>by unfold CR;rw[h];rfl
   have hS5: ∀o',St c.w0 c.M0 (W2.putObj (w.heap.size+1) o') M' (HD (j g).H++(.raw w.heap.size CB::c.Hr)):=λ o'=>(hS3.RD hi o').drop _ (by
    rw[List.set_append_right _ _ (Nat.le_refl _),Nat.sub_self]
    exact List.Sublist.append (List.Sublist.refl _) (List.sublist_cons_self _ _))
   rcases hIn with⟨K,hIn⟩|⟨K,hJn⟩
   ·subst K
    rw[hrt]at hl
    have X:=run_endLoop (P:=c.P) hl (by rw[i];simp)
    have G:(Instr.endLoop (w.heap.size+1)).run c.P W2= .ok none (W2.putObj (w.heap.size+1) (.loop { rec .ready none with state:=.exhausted})):=by rw[X];rw[i]
    refine⟨none,_,G,?_⟩
    have:=hn w.heap.size g a (W2.putObj (w.heap.size+1) (.loop { rec .ready none with state:=.exhausted})) hIn (by rw[hL];exact R) ⟨M',hS5 _,hF3,hX.le.trans hle⟩
    rw[hupd a hd]at this
    exact this
   ·subst K
    rw[hrf]at hl
    have X:=run_endLoop (P:=c.P) hl (by rw[i];simp)
    have G:(Instr.endLoop (w.heap.size+1)).run c.P W2= .ok (some .ret) (W2.putObj (w.heap.size+1) (.loop { rec .done (some .ret)with state:=.exhausted})):=by rw[X];rw[i]
    refine⟨some .ret,_,G,?_⟩
    have:=hr w.heap.size g a (W2.putObj (w.heap.size+1) (.loop { rec .done (some .ret)with state:=.exhausted})) hJn (by rw[hL];exact R) ⟨M',hS5 _,hF3,hX.le.trans hle⟩
    rw[hupd a hd]at this
    exact wpIn_ret this
theorem AZ2{c:Cx}{B:Exit->Act->World->Prop}{k k':List Fr}{m:Md}{s s':XS}{O:Prop}{E:List Ck}{σ τ:Type}(b:σ->XS)(I:Nat->σ->Prop)(J:σ->Prop)(g0:σ){e:Operand}{ps:List Tmp}{assign body:Code}{j:FuncId}{lb:List Value}{n:Nat}{av:Nat->τ->List XV}{q:Nat->τ->Prop}{K:Nat->τ->List (Nat×Kn)}{E1:List Ck}(z:Nat->σ->τ->XS)
  (hw: ∀x Q a w,x.wp c.P Q a w->c.W.wp x Q a w) (h:run c.T c.N k m s=⟨k',.code (.rangeFunc e ⟨ps⟩ assign body),s',O,E⟩)
  (hg:BB s'.L .t e=some (.v (.func (.func j) #[] ⟨lb⟩),E1)) (R:CT c.P j)
  (h0:(⟨J0 (b g0).F s'.F,J1 (b g0).H s'.H,G8 (keys (b g0).L) s'.L⟩:XS)=b g0) (S:I 0 g0) (V: ∀g,(b g).L=(b g0).L)
  (hH: ∃X x2 x3 x4:σ->HO,∀g,HD (b g).H=[X g,x2 g,x3 g,x4 g]) (hit: ∀w M D w',CZ c s'.F s'.H w M->SG c.P j lb n c.w0 c.M0 (.raw D CB::c.Hr) av q K w' M)
  (A: ∀k y,NV c.N ps (av k y)=true)
  (ha: ∀k g y l D r M,k<n->I k g->q k y->XG (cR c l D r M) nB [.loop (λ t=>t=z k g y)] (.code assign) ⟨K k y++(b g).F,(b g).H,pz ps (av k y) (b g).L⟩) (C:D6 assign=true)
  (hb: ∀k g y l D r M,k<n->I k g->q k y->XG (cR c l D r M) (YS (cR c l D r M) (λ t=> ∃i,t=b i/\J i)) [.loop (λ t=> ∃i,t=b i/\I (k+1) i)] (.code body) (z k g y)) (G:D6 body=true)
  (hn: ∀D g a w,I n g->AZ a c.N (b g).L.d->(∃M,St c.w0 c.M0 w M (HD (b g).H++(.raw D CB::c.Hr))/\BI M (b g).F/\c.M1.le M)->post c B k' .normal (CR [⟨.collected D,#[]⟩] a) w)
  (hr: ∀D g a w,J g->AZ a c.N (b g).L.d->(∃M,St c.w0 c.M0 w M (HD (b g).H++(.raw D CB::c.Hr))/\BI M (b g).F/\c.M1.le M)->post c B k' .ret (CR [⟨.collected D,#[]⟩] a) w) (hE:A9 E:=by exact Ad) (hO:O:=by exact Af) (hE1:A9 E1:=by exact Ad):XG c B k m s:=
 fH b I J g0 (λ k g y t=>t=z k g y) hw h (hE:=hE) (hO:=hO) hg (hE1:=hE1) R h0 S V hH hit A ha C (λ k g y l D r M hk hi hp t ht=>by subst ht;exact hb k g y l D r M hk hi hp) G hn hr
theorem qB{P:Program}{N:Nat}{w0:World}{M0 M1:Mem}{Hr:List HO}{T:TT}{hT:DP P T}{B:Exit->Act->World->Prop}{k k':List Fr}{m:Md}{s s':XS}{O:Prop}{E:List Ck}{all:Array Oper}{rest:List Oper}{d:Nat}{ty:TypeId}{ps:String}{af:Array Edge}
  {γ:Type} (n:γ->List (Nat×HX)) (j:γ->Bool) (ids:List Nat) {pu:γ->Prop} {Fg:γ->List (Nat×Kn)} {Hg:γ->List HO} {l:Nat} {q:Operand} {E1 E2:List Ck} {xs:List Operand} {tys:Array TypeId} {vs:List XV} {A R:List (Nat×HX)} (C:List Nat)
  (h:run T N k m s=⟨k',.ops all (⟨some d,.call ⟨.value q,⟨xs⟩,tys⟩,ty,ps,af,none⟩::rest),s',O,E⟩) (D:BB s'.L .t q=some (.v (.func (.yield l) #[] #[]),E1)) (hd:Nat.blt d N=true) (hx:JH s'.L .t xs=some (vs,E2))
  (G:GA ids s'.H=some (A,R)) (J: ∀w M,St w0 M0 w M (HD A++(HD R++Hr))->BI M s'.F->M1.le M->WR P l (vs.map XV.d).toArray w (BF w0 M0 M (HD R++Hr) (λ g:γ=>.bool (j g)) pu Fg Hg))
  (K: ∀g,pu g->XG ⟨P,N,w0,M0,M1,Hr,T,hT,.RB P none 1⟩ B k' (.ops all rest) ⟨PC C (Fg g)++s'.F,n g++R,(d,.t,.v (.bool (j g)))::s'.L⟩) (hE:A9 E:=by exact Ad) (hO:O:=by exact Af) (hE1:A9 E1:=by exact Ad) (hE2:A9 E2:=by exact Ad) (hH: ∀g,HD (n g)=Hg g:=by intros;rfl):XG ⟨P,N,w0,M0,M1,Hr,T,hT,.RB P none 1⟩ B k m s:=by
 refine CL h hE hO λ a w ⟨hs,M,b⟩ hl i=>?_
 rw[List.all_cons,Bool.and_eq_true]at i
 have y:St w0 M0 w M (HD A++(HD R++Hr)):=b.st.perm (by rw[<-List.append_assoc];exact(PD G).append_right _)
 obtain⟨fn,tmps,assign,body,Q,S⟩:=J w M y b.f b.le
 unfold wpListIn
 rw[if_pos (show Region.wanted ⟨some d,.call ⟨.value q,⟨xs⟩,tys⟩,ty,ps,af,none⟩ (yielded all a.tmps)=true from rfl)]
 refine⟨λ _ _=>trivial,?_⟩
 have key:=mK (P:=P) (w:=w) (A7 D (hE:=hE1)) (LH hx hE2) hs U (d:=some d) (tys:=tys) (ty:=ty) (ps:=ps) (af:=af) (gd:=none)
 rw[show(FR none).round=none from rfl,show ∀(o:Oper),Oper.semAt none a.eval o=execOp a.eval o from λ _=>rfl]
 have V:(⟨xs⟩:Array Operand)=xs.toArray:=rfl
 rw[V,key,Q]
 refine⟨(λ h=>by cases h),RoundIn.mono (R:=BF w0 M0 M (HD R++Hr) (λ g:γ=>.bool (j g)) pu Fg Hg) S λ e w' he=>?_⟩
 obtain⟨g,M',rfl,hp,hle,hS,hF⟩:=he
 have z:=R8 hs hd (.v (.bool (j g)))
 have e2:HD (n g++R)++Hr=Hg g++(HD R++Hr):=by rw[<-hH];unfold HD;rw[List.map_append,List.append_assoc]
 exact K g hp _ w' ⟨z,M',by rw[e2];exact hS,(U7 hF).app (b.f.mono hle),b.le.trans hle⟩ hl i.2
theorem MQ.leave {P:Program}{T:TT}(hT:DP P T){fn:Func}{R:Ending->World->Prop}{Q:Exit->Act->World->Prop}(e:MQ P fn R Q){D N:Nat}{H:List (Nat×HX)}{Hr:List HO}{L:XE}{a:Act}{w0 w:World}{M0 M:Mem}{rs:List ResultVar}{vs:List XV}{E2:List Ck}
  (hS:St w0 M0 w M (HD H++(.raw D CB::Hr))) (hs:AZ a N L.d) (h:fn.results=⟨rs⟩) (hl:NU T H L rs=some (vs,E2)) (i: ∀w',St w0 M0 w' M (HD H++Hr)->R (.returned (PE vs)) w') (hE2:A9 E2:=by exact Ad):Q .ret (CR (IH D) a) w:=by
 have hi:(HD H++(HO.raw D CB::Hr))[(HD H).length]? =some (.raw D CB):=by simp
 have j:=(hS.obj hi).2.1
 have b:St w0 M0 (w.putObj D (.deferred none)) M (HD H++Hr):=(hS.RD hi (.deferred none)).drop _ (by
  rw[List.set_append_right _ _ (Nat.le_refl _),Nat.sub_self]
  exact List.Sublist.append (List.Sublist.refl _) (List.sublist_cons_self _ _))
 refine e.all .ret (CR (IH D) a) w ?_
 show LeavesInM _ _ _ _ _ _ (a.defers++IH D) _ _
 rw[hs.DX]
 exact⟨by simp,.inl ⟨D,_,rfl,run_takeDeferred j,_,(fF (a:=a) hT b hs h hl (hE2:=hE2):(results fn a.tmps).run P _=_),i _ b⟩⟩
theorem qC{c:Cx}{k:List Fr}{m:Md}{s s':XS}{O:Prop}{E:List Ck}{fn:Func}{R:Ending->World->Prop}{i:Exit->Act->World->Prop}{D j:Nat}{H:List (Nat×HX)}{rs:List ResultVar}{vs:List XV}{E2:List Ck}(l:MQ c.P fn R i)(n:fn.results=⟨rs⟩)(h:run c.T c.N k m s=⟨[],.ret,s',O,E⟩)
  (hH:s'.H=(j,.ho (.raw D CB))::H) (hl:NU c.T H s'.L rs=some (vs,E2)) (q: ∀w M,St c.w0 c.M0 w M (HD H++c.Hr)->BI M s'.F->c.M1.le M->R (.returned (PE vs)) w) (hE:A9 E:=by exact Ad) (hO:O:=by exact Af) (hE2:A9 E2:=by exact Ad):XG c (bD D i) k m s:=
 CL h hE hO λ a w ⟨h1,M,b⟩=>l.leave c.hT (D:=D) (H:=H) (Hr:=c.Hr) (M:=M) (by
  have:=b.st
  rw[hH]at this
  have e:HD ((j,HX.ho (HO.raw D CB))::H)++c.Hr= .raw D CB::(HD H++c.Hr):=rfl
  rw[e]at this
  exact this.perm List.perm_middle) h1 n hl (λ w' h=>q w' M h b.f b.le) hE2
set_option maxRecDepth 100000
def BU(t:Tf)(k:Nat):Int:=1+len (AN (t.ps.take k))
theorem SH(t:Tf)(k:Nat):D8 t.flat (BU t k) (t.ps.drop k) []:=by
 have h0:=A8 (AN (t.ps.take k))
 refine⟨by unfold BU;omega,?_⟩
 rw[Tf.FG,show(BU t k).toNat=(AN (t.ps.take k)).length+1 by unfold BU len;omega,List.drop_succ_cons]
 conv=>lhs;rw[<-List.take_append_drop k t.ps,J8]
 simp
theorem Q6{t:Tf}{k:Nat}(b:k<t.ps.length):BU t (k+1)=BU t k+len (at' t.ps (k:Int)).flat:=by
 obtain⟨h1,e⟩:=CE t.ps (i:=(k:Int)) Aa (by unfold len;omega)
 unfold BU
 rw[List.take_add_one,J8,AO,e]
 simp[b,AN]
 omega
theorem JM(t:Tf)(k:Nat):1<=BU t k/\BU t k<=len t.flat:=by
 have h0:=A8 (AN (t.ps.take k))
 have h1:=A8 (AN (t.ps.drop k))
 have b:len t.flat=1+(len (AN (t.ps.take k))+len (AN (t.ps.drop k))):=by
  rw[Tf.FG,AL,<-AO,<-J8,List.take_append_drop];omega
 unfold BU;omega
theorem qD{t:Tf}{k:Nat}(b:k<t.ps.length):Eng.sub t.flat (BU t k) (BU t (k+1))=(at' t.ps (k:Int)).flat:=by
 have h:=(SH t k).next b
 have e:=SH t (k+1)
 have i:D8 t.flat (BU t (k+1)) [] (AN (t.ps.drop (k+1))):=⟨e.1,by rw[e.2];simp[AN]⟩
 refine h.part i ?_ (JM t (k+1)).2
 rw[Q6 b];have:=(at' t.ps (k:Int)).EW;omega
theorem qE{t:Tf}{k:Nat}(b:k<t.ps.length):at' t.flat (BU t k)= { (at' t.ps (k:Int)).t with many:=len (at' t.ps (k:Int)).ps}/\BU t k<len t.flat:=
 let h:=((SH t k).next b).step;⟨h.2.1,h.1⟩
theorem N5{b:Bool}(e:b=true){E:List Ck}(h: ∀c∈E,c= .b true b):A9 E:=λ c i=>by rw[h c i];exact λ _=>e
def EJ:List Tf->Int->A0->(Tf->Int×Bool)->Int×Bool
 |[],_,_,_=>(0,false)
 |x::l,o,n,F=>if x.t.name=n then(if(F x).2=true then(o+(F x).1,true)else(0,false))else EJ l (o+len x.flat) n F
def B1:List Sp->Tf->Int×Bool
 |[],t=>(0,decide (t.t.op=1))
 |s::p,t=>if t.t.op≠2\/s.part=true then(0,false)else EJ t.ps 1 s.name (B1 p)
theorem qF{F:Tf->Int×Bool}{n:A0}: ∀ {l:List Tf} {o:Int},(∀x∈l,0<=(F x).1/\(F x).1<len x.flat)->0<o->0<=(EJ l o n F).1/\(EJ l o n F).1<o+len (AN l)
 |[],o,_,h0=>⟨by show(0:Int)<=0;omega,by have:=A8 (AN []);show(0:Int)<_;omega⟩
 |x::l,o,h,h0=>by
  have hx:=h x (.head _)
  have hl:=A8 (AN l)
  have b:=A8 x.flat
  have i:=qF (F:=F) (n:=n) (l:=l) (o:=o+len x.flat) (λ y j=>h y (.tail _ j)) Aa
  have e:len (AN (x::l))=len x.flat+len (AN l):=by show len (x.flat++AN l)=_;rw[AO]
  rw[e]
  unfold EJ
  split
  ·split
   ·exact⟨by show 0<=o+(F x).1;omega,by show o+(F x).1<_;omega⟩
   ·exact⟨by show(0:Int)<=0;omega,by show(0:Int)<_;omega⟩
  ·exact⟨i.1,Aa⟩
theorem V7: ∀(p:List Sp) (t:Tf),0<=(B1 p t).1/\(B1 p t).1<len t.flat
 |[],t=>⟨Int.le_refl _,t.EW⟩
 |s::p,t=>by
  unfold B1
  split
  ·exact⟨Int.le_refl _,t.EW⟩
  ·have h:=qF (F:=B1 p) (n:=s.name) (l:=t.ps) (o:=1) (λ x _=>V7 p x) Aa
   refine⟨h.1,?_⟩
   rw[Tf.FG,AL];omega
theorem fI{F:Tf->Int×Bool}{n:A0}: ∀ {k:Nat} {l:List Tf} {o:Int},(∀x∈l.take k,x.t.name≠n)->EJ l o n F=EJ (l.drop k) (o+len (AN (l.take k))) n F
 |0,l,o,_=>by simp[AN,len]
 |k+1,[],o,_=>rfl
 |k+1,x::l,o,h=>by
  have h1:x.t.name≠n:=h x (by simp)
  have b:=fI (F:=F) (n:=n) (k:=k) (l:=l) (o:=o+len x.flat) λ y e=>h y (by simp[e])
  rw[EJ,if_neg h1,b]
  show _=EJ (l.drop k) (o+len (x.flat++AN (l.take k))) n F
  rw[AO,Int.add_assoc]
theorem AZ3{t:Tf}{k:Nat}{n:A0}{F:Tf->Int×Bool}(h:k<t.ps.length)(b: ∀x∈t.ps.take k,x.t.name≠n)(j:(at' t.ps (k:Int)).t.name=n):
  EJ t.ps 1 n F=if(F (at' t.ps (k:Int))).2=true then(BU t k+(F (at' t.ps (k:Int))).1,true)else(0,false):=by
 obtain⟨h1,l⟩:=CE t.ps (i:=(k:Int)) Aa (by unfold len;omega)
 have e:t.ps.drop k=at' t.ps (k:Int)::t.ps.drop (k+1):=by
  rw[l,List.drop_eq_getElem_cons h];simp
 rw[fI b,e,EJ,if_pos j];rfl
theorem AZ4{t:Tf}{n:A0}{F:Tf->Int×Bool}(b: ∀x∈t.ps.take t.ps.length,x.t.name≠n):EJ t.ps 1 n F=(0,false):=by
 rw[fI b,List.drop_length];rfl
theorem fJ{α:Type}(s:α)(p:List α):Eng.sub (s::p) 1 (len (s::p))=p:=by
 unfold Eng.sub len
 rw[show((1:Int).toNat)=1 from rfl,List.drop_succ_cons,List.drop_zero]
 exact List.take_of_length_le (by simp)
theorem AZ5{t:Tf}{k:Nat}{n:A0}(e:k<t.ps.length)(b: ∀x∈t.ps.take k,x.t.name≠n)(h:(at' t.ps (k:Int)).t.name≠n): ∀x∈t.ps.take (k+1),x.t.name≠n:=by
 obtain⟨h1,j⟩:=CE t.ps (i:=(k:Int)) Aa (by unfold len;omega)
 rw[j]at h
 intro x hx
 rw[List.take_add_one]at hx
 rcases List.mem_append.1 hx with hx|hx
 ·exact b x hx
 ·simp[e]at hx;subst hx;simpa using h
end Go.Eng
namespace Go.Proofs.YtnoegalemkbbbaaGreatDoor
open Go.Proofs.Tryz
open Go.Eng
theorem qG(v:Value)(f:Fl)(i:Int)(u:Tf)(R:Fl){w:World}{M:Mem}(C:Sat w M)(hl:(A6 v f).ok M)(h:D8 f i [u] R)(hi:i<=len f)(O:len f<=1099511627776):
    Calls prog 191 [v,i64 i].toArray w λ e w'=>e= .returned (i64 (i+len u.flat))/\Ext w w':=by
 have D:=h.1
 have E:=u.EW
 have n:=h.KM hi
 have F:AN [u]=u.flat:=by show u.flat++AN []=_;simp[AN]
 rw[F]at n
 have G:=A8 R
 refine AH (Hr:=[]) AF func191 U ntmps191 [(0,A6 v f)] [] [.sl 0 v,I i] U (Aj C) (AD hl A3) (λ B H=>B7 (σ:=Int×Int×List Tf) (λ(b,l,st)=>⟨[(0,A6 v f)],[],[Z 0 (.sl 0 v),Z 1 (I b),Z 4 (I 0),Z 5 (I l)]⟩) (λ(b,l,st)=>D8 f b st R/\l=len st/\i<=b/\b<=len f) (λ(b,l,st)=>(len f-b).toNat) (i,1,[u]) U U ⟨h,rfl,Aa,Aa⟩ ?_) U
 rintro⟨b,l,st⟩ ⟨j,k,hit,s⟩
 have P:=A8 R
 refine A1 U (λ q=>?_) (λ q=>?_)<;>simp only[zb]at q
 ·cases st with
   |nil=>rw[len_nil]at k;omega
   |cons u st=>
    obtain⟨Q,J,A⟩:=j.step
    have K:=A.KM Aa
    have L:=JJ (u.ps++st)
    have S:(at' f b).many=len u.ps:=by rw[J]
    rw[AO]at L
    rw[AL]at k
    have T:=A8 u.ps
    have V:=A8 st
    have W:=j.1
    exact AX (b+1,l+((at' f b).many-1),u.ps++st) U U ⟨A,by rw[AO];omega,Aa,Aa⟩ Ag
 have y:st=[]:=by
  have:=A8 st
  cases st with
  |nil=>rfl
  |cons u st=>have:=A8 st;rw[AL]at k;omega
 subst y
 have K:=j.KM s
 have e2:len (AN [])=0:=rfl
 have z:b=i+len u.flat:=by omega
 subst z
 exact A2 H U U U λ w M N=>⟨rfl,N.st.low⟩
theorem qH{w0 w:World}{M0 M:Mem}{K:HO}{Rs:List HO}{b:Nat}{v:Value}{t:Tf}(hl:(A6 v t.flat).ok M)(hb:len t.flat<=1099511627776)(q:t.t.op≠1):
    SG prog 190 [.pointer (some ⟨b,0,none⟩)] t.ps.length w0 M0 (K:: .box b [v] 25::Rs)
      (λ k (_:Unit)=>[I (BU t k),I (BU t (k+1))]) (λ _ _=>True) (λ _ _=>[]) w M:=by
 intro γ X I' J Hy O l g0 ⟨D,E,F,G,H,hx⟩ hS hF hI hy
 have P:St w0 M0 w M (.box b [v] 25::D g0::E g0::F g0::G g0::H g0::(K::Rs)):=by
  rw[hx]at hS
  exact hS.perm (List.perm_middle (l₁:=[D g0,E g0,F g0,G g0,H g0,K])).symm
 have hmny:=t.XX
 have hpos:=t.EW
 have hps:=JJ t.ps
 have hpl:len t.flat=1+len (AN t.ps):=by rw[Tf.FG,AL];omega
 have hln:len t.ps=(t.ps.length:Int):=rfl
 have s:(at' t.flat 0).op=t.t.op:=by rw[Tf.S0]
 refine XR (Hr:=K::Rs) AF func190 rfl ntmps190 rfl (λ w h=>by obtain⟨g,M',h,_⟩:=h;cases h) [(0,A6 v t.flat),(9,I4 (O g0))] [(0,.box b [.sl 0 v] 25),(1,.ho (D g0)),(2,.ho (E g0)),(3,.ho (F g0)),(4,.ho (G g0)),(5,.ho (H g0))] [.v (.func (.yield l) #[] #[]),.bx 0 b 0] rfl P (AD hl (AD ⟨Sl.nil M 1,DO,hF⟩ A3)) (λ B hB=>B7 (σ:=Int×Nat×γ) (λ(i,k,g)=>⟨[(0,A6 v t.flat),(9,I4 (O g))],[(0,.box b [.sl 0 v] 25),(1,.ho (D g)),(2,.ho (E g)),(3,.ho (F g)),(4,.ho (G g)),(5,.ho (H g))],[Z 0 (.v (.func (.yield l) #[] #[])),Z 1 (.bx 0 b 0),Z 3 (I i),Z 8 (I (at' t.flat 0).many),Z 9 (I k)]⟩) (λ(i,k,g)=>i=BU t k/\k<=t.ps.length/\I' k g) (λ(i,k,g)=>t.ps.length-k) (1,0,g0) U U ⟨rfl,Nat.zero_le _,hI⟩ ?_) rfl
 rintro⟨i,k,g⟩ ⟨hi,hk,L⟩
 have hpk:=JM t k
 refine A1 U (λ N=>?_) (λ N=>?_)<;>simp only[zb]at N
 ·have z:k<t.ps.length:=by omega
  have hpk2:=JM t (k+1)
  have Q:=Q6 z
  subst hi
  refine AJ U call191 U U (λ _ w M y=>qG v t.flat (BU t k) _ _ y.st.sat (y.f.get (k:=0) U) ((SH t k).next z) Aa hb) U ?_
  rw[<-Q]
  refine GB (.v (.bool true)) U U (λ n=>?_) (λ n=>?_)
  ·refine qB (λ j=>[(1,.ho (D j)),(2,.ho (E j)),(3,.ho (F j)),(4,.ho (G j)),(5,.ho (H j))]) X [1,2,3,4,5] (γ:=γ) (pu:=λ g=>if X g=true then I' (k+1) g else J g) (Fg:=λ j=>[(9,I4 (O j))]) (Hg:=Hy) [9] U U (hE1:=NT n U) U U (hE2:=N5 n (by simp)) U (λ w' M' R S hle=>?_) (hH:=λ j=>by rw[hx];rfl) λ j A=>?_
   ·have hp:(Hy g++(K:: .box b [v] 25::Rs)).Perm (D g::E g::F g::G g::H g:: .box b [v] 25::K::Rs):=by
     rw[hx]
     exact((((((List.Perm.swap _ _ _).cons _).cons _).cons _).cons _).cons _)
    obtain⟨fn,T,V,bd,e1,e2⟩:=hy k g () w' M' z L trivial (R.perm hp) hle (λ x h=>by cases h) (S.get (k:=9) rfl).more
    refine⟨fn,T,V,bd,e1,e2.mono λ e w2 h=>?_⟩
    obtain⟨j,M2,r1,r2,r3,r4,r5⟩:=h
    refine⟨j,M2,r1,r2,r3,?_,AD ⟨Sl.nil M2 1,DO,r5⟩ A3⟩
    exact r4.perm (List.Perm.append_left _ (List.Perm.swap _ _ _))
   ·refine A1 U (hE:=N5 n (by simp[s,q])) (λ C=>?_) (λ C=>?_)<;>simp only[zb]at C
    ·rw[if_neg (by rw[C.2];decide)]at A
     refine A2 hB U U (hE:=N5 n (by simp[s,q])) U λ w' M' y=>⟨j,M',rfl,.inr A,y.le,y.st.perm ?_,(y.f.get (k:=9) U).more⟩
     rw[hx]
     exact List.Perm.append_left [D j,E j,F j,G j,H j] (List.Perm.swap _ _ _)
    ·rw[if_pos (C.resolve_left (by rw[s];exact q))]at A
     exact AX (BU t (k+1),k+1,j) U (hE:=N5 n (by simp[s,q])) U ⟨rfl,z,A⟩ (by show t.ps.length-(k+1)<t.ps.length-k;omega)
  ·rw[s]at n;simp[q]at n
 ·have W:k=t.ps.length:=by omega
  refine U8 hB U U λ w' M' y=>⟨g,M',rfl,.inl (by rw[<-W];exact L),y.le,y.st.perm ?_,(y.f.get (k:=9) U).more⟩
  rw[hx]
  exact List.perm_middle (l₁:=[D g,E g,F g,G g,H g,K])
theorem qI{w0 i:World}{M0 M:Mem}{Rs:List HO}{v:Value}{t:Tf}(hS:St w0 M0 i M Rs)(hl:(A6 v t.flat).ok M):
  Calls prog 167 [v].toArray i (BF w0 M0 M Rs (λ b:Nat=>.func (.func 190) #[] #[.pointer (some ⟨b,0,none⟩)]) (λ _=>True) (λ _=>[]) λ b=>[.box b [v] 25]):=AH (Hr:=Rs) AF func167 U ntmps167 [(0,A6 v t.flat)] [] [.sl 0 v] U hS (AD hl A3) (λ B j=>BM 1 U U U λ b=>AR (.v (.func (.func 190) #[] #[.pointer (some ⟨b,0,none⟩)])) U U (λ w M e=>PV.makeFunc (xs:=[]) (ys:=[.tmp 1]) (vs:=[]) (us:=[.pointer (some ⟨b,0,none⟩)]) trivial ⟨A7 (v:=.bx 1 b 0) (E:=[]) U,trivial⟩) <|A2 j rfl rfl rfl λ w' M' e=>⟨b,M',rfl,trivial,e.le,e.st,λ x h=>by cases h⟩) U
theorem YT: ∀(p:List Sp) {w0 S:World} {M0 M:Mem} {Rs:List HO} (v u:Value) (t:Tf),St w0 M0 S M Rs->(A6 v t.flat).ok M->(kn u 3 p Sp.cells).ok M->len t.flat<=1099511627776->len p<=1099511627776->
    Calls prog 134 [v,u].toArray S (BF w0 M0 M Rs (λ _:Unit=>.tuple #[i64 (B1 p t).1,.bool (B1 p t).2]) (λ _=>True) (λ _=>[]) λ _=>[]):=by
 intro p
 induction p with
 |nil=>
  intro w0 S M0 M Rs v u t hS hl hu hb O
  have P:=t.EW
  refine UB (Hr:=Rs) AF func134 U ntmps134 [(0,A6 v t.flat),(1,kn u 3 [] Sp.cells)] [] [.sl 0 v,.sl 1 u] U hS (AD hl (AD hu A3)) (λ B Q=>?_) U
  refine BM 2 U U U λ C=>?_
  refine BM 3 U U U λ E=>?_
  refine B9 4 U zeroValue3 U λ G=>?_
  refine B9 5 U zeroValue4 U λ H=>?_
  refine A1 U (λ z=>?_) (λ z=>?_)<;>simp only[zb]at z
  ·refine D7 [5,6] 3 (λ _ _ _ _ _ h=>h) U BK Ac ?_
   refine AK 5 U U U ?_
   refine AE U ?_
   refine AK 6 U U U ?_
   refine AE U ?_
   refine BL U U U ?_
   exact A2 Q.ends U U U λ w M' L=>⟨(),M',by rw[Tf.S0];rfl,trivial,L.le,L.st.drop _ mS,A3⟩
  ·exfalso;exact z U
 |cons s p ih=>
  intro w0 S M0 M Rs v u t hS hl hu hb O
  have P:=t.EW
  have hp0:=A8 p
  rw[AL]at O
  have R:at' (s::p) 0=s:=rfl
  refine UB (Hr:=Rs) AF func134 U ntmps134 [(0,A6 v t.flat),(1,kn u 3 (s::p) Sp.cells)] [] [.sl 0 v,.sl 1 u] U hS (AD hl (AD hu A3)) (λ B Q=>?_) U
  refine BM 2 U U U λ C=>?_
  refine BM 3 U U U λ E=>?_
  refine B9 4 U zeroValue3 U λ G=>?_
  refine B9 5 U zeroValue4 U λ H=>?_
  have hlc:len (s::p)=len p+1:=AL s p
  refine A1 U (λ z=>?_) (λ z=>?_)<;>simp only[zb]at z
  ·exfalso;omega
  refine A1 U (λ n=>?_) (λ n=>?_)<;>simp only[zb]at n<;>rw[Tf.S0,R]at n
  ·have e:B1 (s::p) t=(0,false):=by unfold B1;rw[if_pos n]
   exact A2 Q.ends U U U λ w M' L=>⟨(),M',by rw[e];rfl,trivial,L.le,L.st.drop _ mS,A3⟩
  have V:t.t.op=2:=n.1
  have eL:B1 (s::p) t=EJ t.ps 1 s.name (B1 p):=by rw[B1,if_neg (by rintro(q|q);exact q n.1;rw[n.2]at q;cases q)]
  refine AP [] (λ b:Nat=>.v (.func (.func 190) #[] #[.pointer (some ⟨b,0,none⟩)])) [] (λ b=>[(6,.box b [.sl 0 v] 25)]) U U call167 U U (λ w M hS hF=>qI hS (hF.get (k:=0) U)) λ b6 _=>?_
  refine WW [6] U U ?_
  obtain⟨Sf,hSf⟩: ∃Sf:Int×Bool->XS,Sf=λ g=>⟨[(0,A6 v t.flat),(1,kn u 3 (s::p) Sp.cells)],[(2,.box C [.sl 0 v] 25),(3,.box E [.sl 1 u] 61),(4,.box G [I g.1] 3),(5,.box H [.v (.bool g.2)] 4)],[Z 2 (.bx 2 C 0),Z 3 (.bx 3 E 0),Z 4 (.bx 4 G 0),Z 5 (.bx 5 H 0)]⟩:=⟨_,rfl⟩
  refine AZ2 (σ:=Int×Bool) (τ:=Unit) (λ g=>⟨[(0,A6 v t.flat),(1,kn u 3 (s::p) Sp.cells)],[(2,.box C [.sl 0 v] 25),(3,.box E [.sl 1 u] 61),(4,.box G [I g.1] 3),(5,.box H [.v (.bool g.2)] 4)],[Z 2 (.bx 2 C 0),Z 3 (.bx 3 E 0),Z 4 (.bx 4 G 0),Z 5 (.bx 5 H 0)]⟩)
    (λ k g=>g=(0,false)/\ ∀x∈t.ps.take k,x.t.name≠s.name) (λ g=>g=EJ t.ps 1 s.name (B1 p)) (0,false)
    (λ k g y=>⟨[(0,A6 v t.flat),(1,kn u 3 (s::p) Sp.cells)],[(2,.box C [.sl 0 v] 25),(3,.box E [.sl 1 u] 61),(4,.box G [I g.1] 3),(5,.box H [.v (.bool g.2)] 4)],[Z 6 (I (BU t k)),Z 7 (I (BU t (k+1))),Z 2 (.bx 2 C 0),Z 3 (.bx 3 E 0),Z 4 (.bx 4 G 0),Z 5 (.bx 5 H 0)]⟩)
    (λ _ _ _ _ h=>h) U U call190 U ⟨rfl,λ x hx=>by simp at hx⟩ (λ _=>rfl) ⟨_,_,_,_,λ _=>rfl⟩ (λ w M D w' L=>qH (L.f.get (k:=0) U) hb (by rw[V];decide)) (λ _ _=>rfl)
    (λ k g y l D r M N T hp=>?_) U (λ k g y l D r M N T hp=>?_) U (λ D g a w T=>?_) (λ D g a w hJ=>?_)
  ·exact AT _ U U U
  ·obtain⟨rfl,J⟩:=T
   have hpk:=JM t k
   have hpk2:=JM t (k+1)
   have hst:=Q6 N
   have hcp:=(at' t.ps (k:Int)).EW
   obtain⟨W,hrl⟩:=qE N
   refine qA [] 1 U BK Ac ?_
   refine BL U U U ?_
   refine fG ?_
   refine A1 U (λ A=>?_) (λ A=>?_)<;>simp only[zb]at A<;>rw[W,R]at A
   ·have K:=qD N
    have hcb:=V7 p (at' t.ps (k:Int))
    have j:=AZ3 (F:=B1 p) N J A
    refine qA [3,5,6,10,11] 6 U BK Ac ?_
    refine FZ 3 5 U U U ?_ ?_
    ·refine ET (gd:=none) 8 (BU t k) (BU t (k+1)) U U U ⟨.i64,_,rfl,AG U⟩ ⟨.i64,_,rfl,AG U⟩ underlying25 sizeOf52 Aa U λ X=>?_
     rw[K]
     refine AE U ?_
     refine AK 5 U U U ?_
     refine ET (gd:=none) 9 1 (len (s::p)) U U U ⟨.i64,_,rfl,AG U⟩ U underlying61 sizeOf105 Aa U λ v9=>?_
     rw[fJ]
     refine AE U ?_
     refine AK 6 U U U ?_
     refine AP [] (λ _:Unit=>.tu [I (B1 p (at' t.ps (k:Int))).1,.v (.bool (B1 p (at' t.ps (k:Int))).2)]) [] (λ _=>[]) (Fg:=λ _=>[]) U U call134 U U (λ w M hS hF=>ih X v9 (at' t.ps (k:Int)) hS (hF.get (k:=8) U) (hF.get (k:=9) U) Aa Aa) λ _ _=>?_
     refine AE U ?_
     refine AK 10 U U U ?_
     refine AE U ?_
     refine AK 11 U U U ?_
     refine AE U ?_
     refine BL U U U ?_
     refine fG ?_
     refine A1 U (λ i=>?_) (λ i=>?_)<;>simp only[zb]at i
     ·rw[if_neg (by rw[i];decide)]at j
      exact V6 _ U U ⟨(0,false),rfl,j.symm⟩
     ·rw[if_pos i]at j
      exact V6 _ U U ⟨(BU t k+(B1 p (at' t.ps (k:Int))).1,true),rfl,j.symm⟩
    ·refine ET (gd:=none) 9 1 (len (s::p)) U U U ⟨.i64,_,rfl,AG U⟩ U underlying61 sizeOf105 Aa U λ v9=>?_
     rw[fJ]
     refine AE U ?_
     refine AK 3 U U U ?_
     refine ET (gd:=none) 8 (BU t k) (BU t (k+1)) U U U ⟨.i64,_,rfl,AG U⟩ ⟨.i64,_,rfl,AG U⟩ underlying25 sizeOf52 Aa U λ X=>?_
     rw[K]
     refine AE U ?_
     refine AK 6 U U U ?_
     refine AP [] (λ _:Unit=>.tu [I (B1 p (at' t.ps (k:Int))).1,.v (.bool (B1 p (at' t.ps (k:Int))).2)]) [] (λ _=>[]) (Fg:=λ _=>[]) U U call134 U U (λ w M hS hF=>ih X v9 (at' t.ps (k:Int)) hS (hF.get (k:=8) U) (hF.get (k:=9) U) Aa Aa) λ _ _=>?_
     refine AE U ?_
     refine AK 10 U U U ?_
     refine AE U ?_
     refine AK 11 U U U ?_
     refine AE U ?_
     refine BL U U U ?_
     refine fG ?_
     refine A1 U (λ i=>?_) (λ i=>?_)<;>simp only[zb]at i
     ·rw[if_neg (by rw[i];decide)]at j
      exact V6 _ U U ⟨(0,false),rfl,j.symm⟩
     ·rw[if_pos i]at j
      exact V6 _ U U ⟨(BU t k+(B1 p (at' t.ps (k:Int))).1,true),rfl,j.symm⟩
   ·exact AT _ U U ⟨(0,false),rfl,rfl,AZ5 N J A⟩
  ·obtain⟨rfl,J⟩:=T
   have e:=AZ4 (F:=B1 p) J
   refine WT 8 (λ _ _ _ _ h=>h) U (s:=⟨[(0,A6 v t.flat),(1,kn u 3 (s::p) Sp.cells)],[(2,.box C [.sl 0 v] 25),(3,.box E [.sl 1 u] 61),(4,.box G [I 0] 3),(5,.box H [.v (.bool false)] 4)],[Z 2 (.bx 2 C 0),Z 3 (.bx 3 E 0),Z 4 (.bx 4 G 0),Z 5 (.bx 5 H 0)]⟩) ?_ a w
   refine qC Q U U U U λ w' M' hS' hF' hle=>⟨(),M',by rw[eL,e];rfl,trivial,hle,hS'.drop _ (List.sublist_append_right [_,_,_,_,_] _),A3⟩
  ·rintro hs ⟨M',h1,h2,h3⟩
   subst hJ
   show B .ret (CR (IH D) a) w
   refine Q.leave AF h1 hs U U λ w' h=>⟨(),M',by rw[eL];rfl,trivial,h3,h.drop _ (List.sublist_append_right [_,_,_,_,_] _),A3⟩
set_option maxRecDepth 100000
open Go.Eng Go.RowKit
set_option maxHeartbeats 1000000 in
set_option maxRecDepth 100000 in
theorem AZ6(w:World):Calls prog 241 #[.slice none 0 0,.int .i64 0] w λ e w'=>e= .returned (.slice none 0 0)/\w'=w:=by
 have mixed:prog.follows .mixedOrders=true:=by kernel_rfl
 go_enter func241,ntmps241
 go_wp2
 all_goals (go_ret;exact⟨rfl,rfl⟩)
set_option maxHeartbeats 4000000 in
set_option maxRecDepth 100000 in
theorem AZ7(n:Nat)(w:World)(h0:0<n)(D:n*120<=140737488355328):Calls prog 241 #[.slice none 0 0,.int .i64 n] w λ e w'=>
  ∃cap cur,e= .returned (.slice (some ⟨w.heap.size,0,none⟩) 0 cap)/\cap<=maxLen/\cur.size=cap*11/\w'=w.drew.alloc (.cells cur 52):=by
 obtain⟨i0,j,A,E,b⟩: ∃i,prog.info? 52=some i/\i.zero.isSome=true/\i.size=11/\i.bytes=120:=by
  obtain⟨i,hi,he⟩:=Option.map_eq_some_iff.1 (show(prog.info? 52).map (λ i=>(i.zero.isSome,i.size,i.bytes))=some (true,11,120) by kernel_rfl)
  exact⟨i,hi,by simpa using congrArg (·.1) he,by simpa using congrArg (·.2.1) he,by simpa using congrArg (·.2.2) he⟩
 obtain⟨z,F⟩:=Option.isSome_iff_exists.1 A
 have B:z.cells.size=11:=by
  have:=show(prog.info? 52).bind (λ i=>i.zero.map (λ z=>z.cells.size))=some 11 by kernel_rfl
  rw[j]at this;simp only[Option.bind_some,F,Option.map_some,Option.some.injEq]at this;exact this
 have mixed:prog.follows .mixedOrders=true:=by kernel_rfl
 have us:=λ w=>run_underlying (P:=prog) (w:=w) underlying25
 have K:=λ w=>run_underlying (P:=prog) (w:=w) underlying3
 have h1: ¬((n:Int)<0):=by omega
 have L:wrap64 ((n:Int)-0)=(n:Int):=by unfold wrap64;omega
 have M:(n:Int)>0:=by omega
 have hold:(Builtin.firstCells i0.size 0 (.slice none 0 0)).run prog w.drew= .ok #[] w.drew:=run_firstCells_none w.drew i0.size 0 0 0
 have l: ∀ty,(Builtin.append_ #[25,3] ty #[.slice none 0 0,.int .i64 (n:Int)]).run prog w=
   .ok (.slice (some ⟨w.heap.size,0,none⟩) n (grownCap w n 0 52)) (w.drew.alloc (.cells (#[]++Builtin.zeroCells z.cells n++Builtin.zeroCells z.cells (grownCap w n 0 52-n)) 52)):=λ ty=>by
  have h:=Lib.run_append_grow_zeros w 25 3 ty 52 i0 z .i64 .i64 underlying25 underlying3 j F none 0 0 [] hold n Aa Aa Aa Aa
   (by rw[b];omega) (by rw[Nat.zero_add];exact growslice_fits h0 (by rw[b];omega))
  rw[Nat.zero_add]at h
  exact h
 have C:n<=grownCap w n 0 52:=grownCap_ge w _ _ _
 have q:grownCap w n 0 52<=maxLen:=grownCap_le_maxLen w n 0 52 (by unfold maxLen;omega)
 obtain⟨G,H⟩: ∃G,G=grownCap w n 0 52:=⟨_,rfl⟩
 rw[<-H]at l C q
 have J:G<=9223372036854775807:=by unfold maxLen at q;omega
 have s: ∀k,(Builtin.zeroCells z.cells k).size=k*11:=λ k=>by simp[Builtin.zeroCells,B]
 have y:(#[]++Builtin.zeroCells z.cells n++Builtin.zeroCells z.cells (G-n)).size=G*11:=by rw[Array.size_append,Array.size_append,s,s];simp;omega
 generalize (#[]++Builtin.zeroCells z.cells n++Builtin.zeroCells z.cells (G-n))=cur at l y
 clear hold H j
 go_enter func241,ntmps241
 go_wp2_with (at_builtin;refine Lib.wpList_append_run _ U _ _ _ _ U _ _ U U _ _ (l _) ?_)
 all_goals (go_ret;exact⟨G,rfl,q,_,y,rfl⟩)
theorem AZ8{w b:World}{M0 M:Mem}{Hs:List HO}(n:Int)(hS:St w M0 b M Hs)(h0:0<=n)(i:n<=1099511627776):
  Calls prog 241 [.slice none 0 0,i64 n].toArray b λ e w'=> ∃u,e= .returned u/\St w M0 w' M (.priv 52 11 u 0 []::Hs):=by
 by_cases hn:n=0
 ·subst hn
  exact(AZ6 b).mono λ e w' ⟨he,hw⟩=>⟨_,he,hw▸hS.aW _ _⟩
 ·have hg:=AZ7 n.toNat b Aa Aa
  rw[show((n.toNat:Nat):Int)=n from by omega]at hg
  refine hg.mono λ e w' ⟨cap,cur,he,h,hs,hw⟩=>⟨_,he,?_⟩
  subst hw
  exact(hS.ext (Ext.drew b)).AG9 _ 11 cap cur hs h
end Go.Proofs.YtnoegalemkbbbaaGreatDoor
namespace Go.Eng
open Go.RowKit
structure SV where
 key:A0
 val:Value
 born:Nat
def SV.E7 (p:SV):MapEntry:= { key:=str p.key,val:=p.val,born:=p.born}
def FB(l:List SV)(clock:Nat):Obj:=.map ⟨l.map SV.E7⟩ clock
def KS:List SV->A0->Option Value
 |[],_=>none
 |p::l,x=>if x==p.key then some p.val else KS l x
def KT:List SV->A0->Value->Option (List SV)
 |[],_,_=>none
 |p::l,x,v=>if x==p.key then some (⟨x,v,p.born⟩::l)else(KT l x v).map (p:: ·)
def sset(l:List SV)(c:Nat)(x:A0)(v:Value):List SV:=match KT l x v with|some l'=>l'|none=>l++[⟨x,v,c⟩]
def OH(l:List SV)(c:Nat)(x:A0)(v:Value):Nat:=match KT l x v with|some _=>c|none=>c+1
def KA:List SV->A0->Nat->Option (Nat×Value)
 |[],_,_=>none
 |p::l,x,i=>if x==p.key then some (i,p.val)else KA l x (i+1)
theorem qJ(x y:A0):((⟨⟨x⟩⟩:ByteArray)==⟨⟨y⟩⟩)=(x==y):=by
 show((⟨x⟩:Array UInt8)==⟨y⟩)=(x==y)
 simp
theorem qK(x:A0): ∀(l:List SV) (i:Nat),Instr.findNow .string (str x) (l.map SV.E7) i=some (KA l x i)
 |[],_=>rfl
 |p::l,i=>by
  simp only[List.map_cons,Instr.findNow,SV.E7,Instr.sameNow,KA,qJ]
  by_cases h:(x==p.key)=true
  ·rw[h];rfl
  ·rw[Bool.not_eq_true]at h;rw[h];exact qK x l (i+1)
theorem qL(x:A0): ∀(l:List SV) (i:Nat),(KA l x i).map (·.2)=KS l x
 |[],_=>rfl
 |p::l,i=>by
  simp only[KA,KS];split
  ·rfl
  ·exact qL x l (i+1)
theorem qM(x:A0)(v:Value): ∀(l:List SV) (i:Nat),(KA l x i=none/\KT l x v=none)\/ ∃j u p l',KA l x i=some (i+j,u)/\l[j]? =some p/\x=p.key/\KT l x v=some l'/\l'=l.modify j (λ p=>⟨x,v,p.born⟩)
 |[],_=>.inl ⟨rfl,rfl⟩
 |p::l,i=>by
  by_cases h:(x==p.key)=true
  ·refine .inr ⟨0,p.val,p,⟨x,v,p.born⟩::l,?_,rfl,by simpa using h,?_,by simp⟩
   ·simp only[KA,h,if_true];rfl
   ·simp only[KT,h,if_true]
  ·rcases qM x v l (i+1)with⟨h1,b⟩|⟨j,u,q,l',h1,b,e,k,n⟩
   ·refine .inl ⟨?_,?_⟩
    ·simp only[KA,h];exact h1
    ·simp only[KT,h,b];rfl
   ·refine .inr ⟨j+1,u,q,p::l',?_,by simpa using b,e,?_,?_⟩
    ·simp only[KA,h];rw[show i+(j+1)=i+1+j from by omega];exact h1
    ·simp only[KT,h,k];rfl
    ·subst n;simp
theorem qN{P:Program}{t:TypeId}(h:P.underlying t=some .string)(b:Bool)(x:A0)(w:World):(Instr.checkKey b 10000 t (str x)).run P w= .ok () w:=by
 show(Instr.checkKey b (9999+1) t (str x)).run P w= .ok () w
 unfold Instr.checkKey
 rw[Sem.run_bind,run_underlying h];rfl
theorem qO{P:Program}{t:TypeId}(h:P.underlying t=some .string)(x:A0)(l:List SV)(w:World):(Instr.findKey t (str x) (l.map SV.E7)).run P w= .ok (KA l x 0) w:=by
 simp only[Instr.findKey,Sem.run_bind,run_underlying h,Result.andThen_ok,qK];rfl
theorem qP{P:Program}{w:World}{b:Nat}{l:List SV}{c:Nat}(h:w.heap[b]? =some (FB l c)):(getObj b).run P w= .ok (FB l c) w:=by
 simp[getObj,Sem.run,h,FB]
theorem qQ{P:Program}{w:World}{b:Nat}{l:List SV}{c:Nat}(h:w.heap[b]? =some (FB l c))(e:Obj):(setObj b e).run P w= .ok () (GM w b e):=by
 simp[setObj,Sem.run,h,GM,FB]
theorem AZ9{P:Program}{w:World}{b:Nat}{l:List SV}{c:Nat}{t kt e:TypeId}{z:Value}{x:A0}{ok:Bool}(j:P.underlying t=some (.map kt e))(i:P.underlying kt=some .string)(k: ∀w,(zeroValue e).run P w= .ok z w)
  (h:w.heap[b]? =some (FB l c)):(Instr.lookup t (.map (some b)) (str x) ok).run P w= .ok (if ok then .tuple #[(KS l x).getD z,.bool (KS l x).isSome]else(KS l x).getD z) w:=by
 simp only[Instr.lookup,Sem.run_bind,run_underlying j,Result.andThen_ok,qP h,FB,Sem.run_pure,qN i,qO i]
 have hg:=qL x l 0
 cases hf:KA l x 0 with
 |none=>rw[hf]at hg;rw[<-hg];simp[Sem.run_bind,k]
 |some q=>rw[hf]at hg;rw[<-hg];simp
theorem Aa0{P:Program}{w:World}(x:A0):(Instr.keyThatStays (str x) (str x)).run P w= .ok (str x) w:=by
 unfold Instr.keyThatStays
 rw[show Instr.sameBits 10000 (str x) (str x)=true from by simp[Instr.sameBits,qJ]];rfl
theorem Aa1{P:Program}{w:World}{b:Nat}{l:List SV}{c:Nat}{t kt e:TypeId}{x:A0}{v:Value}(n:P.underlying t=some (.map kt e))(k:P.underlying kt=some .string)
  (h:w.heap[b]? =some (FB l c)):(Instr.mapUpdate t (.map (some b)) (str x) v).run P w= .ok () (GM w b (FB (sset l c x v) (OH l c x v))):=by
 simp only[Instr.mapUpdate,Sem.run_bind,run_underlying n,Result.andThen_ok,qP h,FB,qN k,qO k]
 rcases qM x v l 0 with⟨h1,i⟩|⟨j,u,p,l',h1,i,q,s,y⟩
 ·rw[h1]
  simp only[sset,OH,i]
  rw[qQ h];simp[SV.E7]
 ·rw[h1]
  have z:((l.map SV.E7).toArray[0+j]?)=some (SV.E7 p):=by simp[i]
  have e2:(Array.mk (l.map SV.E7))[0+j]? =some (SV.E7 p):=z
  simp only[Sem.run_bind,e2,Option.map_some,Option.getD_some]
  rw[show(SV.E7 p).key=str x from by rw[q];rfl,Aa0]
  simp only[Result.andThen_ok,sset,OH,s]
  rw[qQ h]
  congr 3
  subst y
  rw[Nat.zero_add]
  apply Array.ext'
  rw[Array.toList_modify]
  exact aE SV.E7 _ _ (λ x=>rfl) l j
section rl
variable {P:Program} {ops:Array Oper} {Q:Exit->Act->World->Prop} {N:Nat} {rest:List Oper} {L:Env} {w0 w:World} {M0 M:Mem} {Hs:List HO} {d:Nat} {ty:TypeId} {ps:String} {af:Array Edge}
theorem RL.Aa2 {t:TypeId}(hS:St w0 M0 w M Hs)(hd:Nat.blt d N=true)
  (h: ∀w' b,St w0 M0 w' M (.raw b (FB [] 0)::Hs)->RL P ops Q N rest ((d,true,.map (some b))::L) w'):RL P ops Q N (⟨some d,.makeMap t none,ty,ps,af,none⟩::rest) L w:=by
 intro a hs
 refine wpList_plain U λ K e=>?_
 have key:(execOp a.eval ⟨some d,.makeMap t none,ty,ps,af,none⟩).run P w= .ok (.value (.map (some w.heap.size))) (w.alloc (.map #[] 0)):=rfl
 simp only[Oper.wp,key,Oper.upon_value]
 exact e _ _ (h _ _ (hS.NN (FB [] 0)) _ (hs.put hd true _))
theorem RL.Aa3 {t kt e:TypeId}{m x y:Operand}{i b c j:Nat}{l l':List SV}{n:A0}{v:Value}{Hs':List HO}(ins:Bool)(hS:St w0 M0 w M Hs)(hi:Hs[i]? =some (.raw b (FB l c)))(hm:AA L true m (.map (some b)))(hx:AA L true x (str n))(q:AA L true y v)
  (s:P.underlying t=some (.map kt e)) (z:P.underlying kt=some .string) (hl:sset l c n v=l') (A:OH l c n v=j) (k:Hs.set i (.raw b (FB l' j))=Hs')
  (h: ∀w',St w0 M0 w' M Hs'->RL P ops Q N rest L w'):RL P ops Q N (⟨none,if ins then .insert t m x y else .mapUpdate t m x y,ty,ps,af,none⟩::rest) L w:=by
 intro a hs
 refine wpList_plain U λ K B=>?_
 have C:=(hS.obj hi).2.1
 have key:(execOp a.eval ⟨none,if ins then .insert t m x y else .mapUpdate t m x y,ty,ps,af,none⟩).run P w= .ok .skip (GM w b (FB l' j)):=by
  have:=Aa1 (P:=P) (x:=n) (v:=v) s z C
  cases ins<;>simp only[execOp,hm a N hs rfl,hx a N hs rfl,q a N hs rfl,Bool.false_eq_true,if_true,if_false]<;>rw[Sem.run_bind,this,hl,A]<;>rfl
 simp only[Oper.wp,key,Oper.upon_skip]
 exact B _ _ (h _ (k▸hS.TC hi _) _ hs)
end rl
section pv
variable {P:Program} {C:World->Prop} {L:Env} {W:Bool} {d:Option Tmp} {ty:TypeId} {ps:String} {af:Array Edge} {gd:Option (Nat×Bool)} {w0 w:World} {M0 M:Mem} {Hs:List HO}
theorem PV.Aa4 {t kt e:TypeId}{x y:Operand}{i b c:Nat}{l:List SV}{n:A0}{z v:Value}(hS:St w0 M0 w M Hs)(hC: ∀w',C w'->Ext w w')(hi:Hs[i]? =some (.raw b (FB l c)))(hx:AA L W x (.map (some b)))(k:AA L W y (str n))
  (q:P.underlying t=some (.map kt e)) (s:P.underlying kt=some .string) (A: ∀w,(zeroValue e).run P w= .ok z w) (B:(KS l n).getD z=v):PV P C L W ⟨d,.lookup t x y false,ty,ps,af,gd⟩ v:=by
 intro a N hs j w' h
 have D:=((hS.ext (hC w' h)).obj hi).2.1
 have:=AZ9 (P:=P) (x:=n) (ok:=false) q s A D
 simp only[execOp,hx a N hs j,k a N hs j];rw[Sem.run_bind,this,<-B];rfl
end pv
section
variable {c:Cx} {B:Exit->Act->World->Prop} {k k':List Fr} {m:Md} {s s':XS} {O:Prop} {E:List Ck} {all:Array Oper} {rest:List Oper} {d:Nat} {ty:TypeId} {ps:String} {af:Array Edge}
theorem Aa5(kk:Nat){t:TypeId}(h:run c.T c.N k m s=⟨k',.ops all (⟨some d,.makeMap t none,ty,ps,af,none⟩::rest),s',O,E⟩)
  (i: ∀b,XG c B k' (.ops all rest) ⟨s'.F,(kk,.ho (.raw b (FB [] 0)))::s'.H,(d,.t,.v (.map (some b)))::s'.L⟩) (hE:A9 E:=by exact Ad) (hO:O:=by exact Af) (hd:Nat.blt d c.N=true:=by exact rfl):XG c B k m s:=
 DC h (hE:=hE) (hO:=hO) λ w M e=>RL.Aa2 e.st hd λ w' b hS=>DD (i b) ⟨hS,e.f,e.le⟩ U
theorem Aa6(ins:Bool)(kk:Nat){t kt e:TypeId}{x y z:Operand}{b cl:Nat}{l:List SV}{n:A0}{u:XV}{E1 E2 E3:List Ck}(l':List SV)(q:Nat)(h:run c.T c.N k m s=⟨k',.ops all (⟨none,if ins then .insert t x y z else .mapUpdate t x y z,ty,ps,af,none⟩::rest),s',O,E⟩)
  (hx:BB s'.L .t x=some (.v (.map (some b)),E1)) (D:BB s'.L .t y=some (.v (str n),E2)) (G:BB s'.L .t z=some (u,E3)) (hE1:A9 (E1++(E2++E3))) (J:CY s'.H kk=some (.ho (.raw b (FB l cl))))
  (K:c.P.underlying t=some (.map kt e)) (A:c.P.underlying kt=some .string) (hl:sset l cl n u.d=l') (Q:OH l cl n u.d=q)
  (R:XG c B k' (.ops all rest) ⟨s'.F,C8 s'.H kk (.ho (.raw b (FB l' q))),s'.L⟩) (hE:A9 E:=by exact Ad) (hO:O:=by exact Af):XG c B k m s:=by
 refine DC h (hE:=hE) (hO:=hO) λ w M C=>?_
 obtain⟨i,hi,j⟩:=DK (Hr:=c.Hr) J
 exact RL.Aa3 ins C.st hi (A7 hx (hE:=hE1.app.1)) (A7 D (hE:=hE1.app.2.app.1)) (A7 G (hE:=hE1.app.2.app.2)) K A hl Q (Hs':=HD (C8 s'.H kk (.ho (.raw b (FB l' q))))++c.Hr) (j (.ho (.raw b (FB l' q)))).symm λ w' hS=>DD R ⟨hS,C.f,C.le⟩ U
theorem Aa7(kk:Nat){t kt e:TypeId}{x y:Operand}{gd:Option (Nat×Bool)}{W:Gd}{b cl:Nat}{l:List SV}{n:A0}{z v:Value}{E1:List Ck}(h:run c.T c.N k m s=⟨k',.ops all (⟨some d,.lookup t x y false,ty,ps,af,gd⟩::rest),s',O,E⟩)(hg:(H3 all s'.L gd,Nat.blt d c.N)=(some W,true))
  (hx:H0 s'.L W x y=some (.v (.map (some b)),.v (str n),E1)) (C:CY s'.H kk=some (.ho (.raw b (FB l cl))))
  (D:c.P.underlying t=some (.map kt e)) (j:c.P.underlying kt=some .string) (G: ∀w,(zeroValue e).run c.P w= .ok z w) (J:(KS l n).getD z=v)
  (K:XG c B k' (.ops all rest) ⟨s'.F,s'.H,(d,W,.v v)::s'.L⟩) (hE:A9 E:=by exact Ad) (hO:O:=by exact Af) (hE1:A9 E1:=by exact Ad):XG c B k m s:=
 AR (.v v) h (hE:=hE) (hO:=hO) hg (λ w M Q=>by
  obtain⟨i,hi,_⟩:=DK (Hr:=c.Hr) C
  obtain⟨q,A⟩:=FE hx hE1
  exact .Aa4 Q.st GZ hi q A D j G J) K
end
def BQ(l:List A0):List A0:=l.mergeSort (λ x y=>decide (x<=y))
theorem Aa8(a b:A0):(decide (a<=b)||decide (b<=a))=true:=by
 rcases Classical.em (a<=b)with h|h
 ·simp[h]
 ·simp[List.le_of_lt (List.not_le.1 h)]
theorem Aa9(a b c:A0)(h1:decide (a<=b)=true)(e:decide (b<=c)=true):decide (a<=c)=true:=by
 simp only[decide_eq_true_eq]at*;exact List.le_trans h1 e
theorem fK{ns:List A0}{n:A0}:n∈BQ ns↔n∈ns:=(List.mergeSort_perm ns _).mem_iff
theorem Ab0(ns:List A0):len (BQ ns)=len ns:=by unfold len BQ;rw[List.length_mergeSort]
theorem Ab1{a b:List A0}(h:a.Perm b)(i:a.Pairwise (· <= ·)):a=BQ b:=by
 unfold BQ
 refine List.Perm.eq_of_pairwise (le:=λ x y=>decide (x<=y)=true) (λ x y _ _ h1 e=>?_) (i.imp λ h=>by simpa using h) (List.pairwise_mergeSort Aa9 Aa8 _) (h.trans (List.mergeSort_perm _ _).symm)
 simp only[decide_eq_true_eq]at h1 e
 exact List.le_antisymm h1 e
theorem fL(x:Tf): ∀l:List Tf,(RZ x l).Perm (x::l)
 |[]=>.refl _
 |y::l=>by
  unfold RZ
  split
  ·exact .refl _
  ·exact((fL x l).cons y).trans (.swap _ _ _)
theorem OI: ∀l:List Tf,(LV l).Perm l
 |[]=>.refl _
 |x::l=>(fL x _).trans ((OI l).cons x)
theorem qR(x:Tf): ∀ {l:List Tf},l.Pairwise (λ a b=>a.t.name<=b.t.name)->(RZ x l).Pairwise (λ a b=>a.t.name<=b.t.name)
 |[],_=>List.pairwise_singleton _ _
 |y::l,h=>by
  unfold RZ
  have hp:=List.pairwise_cons.1 h
  split
  ·rename_i e
   refine List.pairwise_cons.2 ⟨λ z i=>?_,h⟩
   rcases List.mem_cons.1 i with rfl|i
   ·exact e
   ·exact List.le_trans e (hp.1 z i)
  ·rename_i e
   refine List.pairwise_cons.2 ⟨λ z i=>?_,qR x hp.2⟩
   rcases List.mem_cons.1 ((fL x l).mem_iff.1 i)with rfl|i
   ·exact List.le_of_lt (List.not_le.1 e)
   ·exact hp.1 z i
theorem qS: ∀l:List Tf,(LV l).Pairwise (λ a b=>a.t.name<=b.t.name)
 |[]=>.nil
 |x::l=>qR x (qS l)
theorem Ab2(l:List Tf):(LV l).map (λ x=>x.t.name)=BQ (l.map λ x=>x.t.name):=
 Ab1 ((OI l).map _) (List.pairwise_map.2 (qS l))
def BP(ns:List A0)(n:A0):Int:=(ns.idxOf n:Nat)
theorem qT{ns:List A0}{n:A0}(h:n∈ns):0<=BP ns n/\BP ns n<len ns:=⟨Int.natCast_nonneg _,Int.ofNat_lt.2 (List.idxOf_lt_length_of_mem h)⟩
def Q7(ns:List A0)(gs:List Tf):List Tf:=(ns.zip gs).map λ q=>q.2.named q.1
theorem Tf.qU (g:Tf)(n:A0):(g.named n).t.name=n:=by cases g;rfl
theorem Ab3{ns:List A0}{gs:List Tf}(h:ns.length=gs.length):(Q7 ns gs).map (λ x=>x.t.name)=ns:=by
 unfold Q7
 rw[List.map_map]
 have:((λ x:Tf=>x.t.name) ∘ λ q:A0×Tf=>q.2.named q.1)=Prod.fst:=by funext q;exact Tf.qU _ _
 rw[this];exact List.map_fst_zip Aa
theorem Ab4{ns:List A0}{gs:List Tf}(h:ns.length=gs.length)(j:ns.Nodup){y:Tf}(b:y∈Q7 ns gs):y=(at' gs (BP ns y.t.name)).named y.t.name:=by
 unfold Q7 at b
 obtain⟨⟨n,g⟩,k,rfl⟩:=List.mem_map.1 b
 obtain⟨i,hi,he⟩:=List.getElem_of_mem k
 rw[List.length_zip]at hi
 rw[List.getElem_zip]at he
 simp only[Prod.mk.injEq]at he
 obtain⟨rfl,rfl⟩:=he
 rw[Tf.qU]
 have e:BP ns (ns[i]'Aa)=(i:Int):=by
  unfold BP;congr 1
  exact List.Nodup.idxOf_getElem j i Aa
 rw[e]
 congr 1
 unfold at'
 simp[List.getElem?_eq_getElem (show i<gs.length by omega)]
def JB:List A0->List AI->Nat->List SV
 |n::ns,h::hs,k=>⟨n,h.v,k⟩::JB ns hs (k+1)
 |_,_,_=>[]
theorem qV: ∀(ns:List A0) (hs:List AI) (k:Nat) (n:A0),ns.length=hs.length->KS (JB ns hs k) n=if n∈ns then some (at' hs (BP ns n)).v else none
 |[],_,_,n,_=>by simp[JB,KS]
 |m::ns,[],_,_,h=>by simp at h
 |m::ns,x::hs,k,n,h=>by
  show(if n==m then some x.v else KS (JB ns hs (k+1)) n)=_
  rw[qV ns hs (k+1) n (by simpa using h)]
  by_cases e:n=m
  ·subst e
   rw[if_pos (by simp),if_pos (by simp)]
   unfold BP;rw[List.idxOf_cons_self];rfl
  ·rw[if_neg (by simpa using e)]
   by_cases h2:n∈ns
   ·rw[if_pos h2,if_pos (by simp[h2])]
    congr 2
    unfold BP
    rw[List.idxOf_cons,show(m==n)=false from by simpa using λ h=>e h.symm]
    unfold at'
    simp
   ·rw[if_neg h2,if_neg (by simp[e,h2])]
theorem Ab5{ns:List A0}{hs:List AI}{n:A0}{x:AI}(h:ns.length=hs.length)(i:n ∉ ns):sset (JB ns hs 0) ns.length n x.v=JB (ns++[n]) (hs++[x]) 0/\OH (JB ns hs 0) ns.length n x.v=(ns++[n]).length:=by
 have put: ∀(ns:List A0) (hs:List AI) (k:Nat),ns.length=hs.length->n ∉ ns->KT (JB ns hs k) n x.v=none:=by
  intro ns
  induction ns with
  |nil=>intro hs k _ _;simp[JB,KT]
  |cons m ns b=>
   intro hs k hl hm
   cases hs with
   |nil=>simp at hl
   |cons y hs=>
    simp only[JB,KT]
    rw[if_neg (by intro e;apply hm;rw[eq_of_beq e];simp),b hs (k+1) (by simpa using hl) (λ e=>hm (by simp[e]))];rfl
 have app: ∀(ns:List A0) (hs:List AI) (k:Nat),ns.length=hs.length->JB ns hs k++[⟨n,x.v,k+ns.length⟩]=JB (ns++[n]) (hs++[x]) k:=by
  intro ns
  induction ns with
  |nil=>intro hs k hl;cases hs with|nil=>rfl|cons y hs=>simp at hl
  |cons m ns b=>
   intro hs k hl
   cases hs with
   |nil=>simp at hl
   |cons y hs=>
    simp only[JB,List.cons_append]
    rw[<-b hs (k+1) (by simpa using hl),List.length_cons,show k+1+ns.length=k+(ns.length+1) by omega]
 have hp:=put ns hs 0 h i
 constructor
 ·unfold sset;rw[hp];dsimp only
  have:=app ns hs 0 h
  rw[Nat.zero_add]at this;exact this
 ·unfold OH;rw[hp];simp
set_option maxRecDepth 100000
def IL(ns:List A0)(k:Int)(x:Fl):Fl:=if k<len ns then x.set 0 { at' x 0 with name:=at' ns k}else x
def G5(ns:List A0)(xs:List Fl):List Fl:=xs.mapIdx λ k x=>IL ns k x
theorem Ab6(ns:List A0)(k:Int)(x:Fl):(IL ns k x).length=x.length:=by unfold IL;split<;>simp
theorem qW(ns:List A0)(xs:List Fl)(x:Fl):G5 ns (xs++[x])=G5 ns xs++[IL ns (len xs) x]:=by unfold G5;rw[List.mapIdx_concat];rfl
theorem qX(ns:List A0)(xs:List Fl):len (G5 ns xs).flatten=len xs.flatten:=by
 have h:(G5 ns xs).map List.length=xs.map List.length:=by
  apply List.ext_getElem?
  intro i
  unfold G5
  rw[List.getElem?_map,List.getElem?_map,List.getElem?_mapIdx]
  cases xs[i]? with
  |none=>rfl
  |some x=>simp[Ab6]
 unfold len
 rw[List.length_flatten,List.length_flatten,h]
theorem fM(xs:List Fl):G5 [] xs=xs:=by
 unfold G5
 have:(λ(k:Nat) (x:Fl)=>IL [] k x)=λ _ x=>x:=by funext k x;unfold IL;rw[if_neg (by rw[len_nil];omega)]
 rw[this];apply List.ext_getElem?;intro i;simp
theorem Ab7{ns:List A0}{gs:List Tf}(h:ns.length=gs.length)(b:ns.Nodup):G5 (BQ ns) ((BQ ns).map λ n=>(at' gs (BP ns n)).flat)=(LV (Q7 ns gs)).map Tf.flat:=by
 have e:G5 (BQ ns) ((BQ ns).map λ n=>(at' gs (BP ns n)).flat)=(BQ ns).map λ n=>((at' gs (BP ns n)).named n).flat:=by
  unfold G5
  apply List.ext_getElem?
  intro i
  rw[List.getElem?_mapIdx,List.getElem?_map,List.getElem?_map]
  cases hi:(BQ ns)[i]? with
  |none=>rfl
  |some n=>
   simp only[Option.map_some,Option.some.injEq]
   have j:=(List.getElem?_eq_some_iff.1 hi).1
   have k:at' (BQ ns) (i:Int)=n:=by unfold at';simp[hi]
   unfold IL
   rw[if_pos (by unfold len;omega),k]
   exact Tf.XY _ _
 rw[e]
 have e2:=Ab2 (Q7 ns gs)
 rw[Ab3 h]at e2
 rw[<-e2,List.map_map]
 refine List.map_congr_left λ y l=>?_
 have:=Ab4 h b ((OI _).mem_iff.1 l)
 show((at' gs (BP ns y.t.name)).named y.t.name).flat=y.flat
 rw[<-this]
end Go.Eng
namespace Go.Proofs.YtnoegalemkbbbaaGreatDoor
open Go.Proofs.Tryz
open Go.Eng
abbrev OJ(w0:World)(M0 M:Mem)(Rs:List HO)(x:Fl):Ending->World->Prop:=BF w0 M0 M Rs (λ h:AI=>h.v) (λ _=>True) (λ _=>[]) λ h=>[HL h.v x]
theorem YU{w0 w:World}{M0 M:Mem}{Rs:List HO}{x:Fl}{e:Ending}(h:BF w0 M0 M Rs (λ u:Value=>u) (λ _=>True) (λ _=>[]) (λ u=>[HL u x]) e w):OJ w0 M0 M Rs x e w:=by
 obtain⟨u,M',h1,q,l,b,s⟩:=h
 have n:=b.told (k:=0) U
 obtain⟨a,c,j,_⟩:=(n.sl (i:=0) rfl).val
 exact⟨⟨a,x.length,c⟩,M',by rw[h1,j],trivial,l,by rw[j]at b;exact b,A3⟩
theorem qY{w0 A:World}{M0 M:Mem}{Rs:List HO}(v:Value)(hs:List AI)(xs:List Fl)(hS:St w0 M0 A M Rs)(hu:(C9 v hs xs).ok M)(C:len xs.flatten<=1099511627776)(K:len hs<=1099511627776):
  Calls prog 209 [v].toArray A (OJ w0 M0 M Rs xs.flatten):=by
 have D:=dC hu
 have E:=A8 hs
 have q:=A8 xs.flatten
 refine AH (Hr:=Rs) AF func209 U ntmps209 [(0,C9 v hs xs)] [] [.sl 0 v] U hS (AD hu A3) (λ B F=>B7 (σ:=Int×Int) (λ(k,t)=>⟨[(0,C9 v hs xs)],[],[Z 0 (.sl 0 v),Z 3 (I t),Z 9 (.sl 0 v),Z 10 (I (len hs)),Z 11 (I k)]⟩) (λ(k,t)=>0<=k/\k<=len hs/\t=len (J7 xs k)) (λ(k,t)=>(len hs-k).toNat) (0,0) U U ⟨Aa,Aa,rfl⟩ ?_) U
 rintro⟨k,t⟩ ⟨h0,h1,s⟩
 have G:=UQ xs k
 have H:=A8 (J7 xs k)
 refine A1 U (λ b=>?_) (λ b=>?_)<;>simp only[zb]at b
 ·have h:=XU (xs:=xs) h0 Aa
  have i:=UQ xs (k+1)
  rw[h,AO]at i
  have J:=A8 (at' xs k)
  refine CL U Ad Aa <|DW 1 (A6 (at' hs k).v (at' xs k)) (λ w M j=>EN (j.f.get (k:=0) U) h0 b) (MO 16 1 U ?_)
  refine A1 U (λ l=>?_) (λ l=>?_)<;>simp only[zb]at l
  ·exfalso;omega
  exact AX (k+1,t+len (at' xs k)) U U ⟨Aa,Aa,by rw[h,AO,s]⟩ Ag
 have z:k=len hs:=by omega
 subst z
 rw[mL Aa]at s
 subst s
 refine AP [] (λ u:Value=>.sl 2 u) [] (λ u=>[(2,ED u [])]) U U call241 U U (λ w M hS hF=>(AZ8 (len xs.flatten) hS q C).mono λ e w' ⟨u,he,hs⟩=>⟨u,M,he,trivial,Mem.le.refl _,hs,A3⟩) λ u _=>B7 (σ:=Int×Value×Fl) (λ(k,u,y)=>⟨[(0,C9 v hs xs)],[(2,ED u y)],[Z 6 (.sl 2 u),Z 25 (.sl 0 v),Z 26 (I (len hs)),Z 27 (I k)]⟩) (λ(k,u,y)=>0<=k/\k<=len hs/\y=J7 xs k) (λ(k,u,y)=>(len hs-k).toNat) (0,u,[]) U U ⟨Aa,Aa,rfl⟩ ?_
 rintro⟨k,u,y⟩ ⟨h0,h1,n⟩
 refine A1 U (λ b=>?_) (λ b=>?_)<;>simp only[zb]at b
 ·have h:=XU (xs:=xs) h0 Aa
  have i:=UQ xs (k+1)
  rw[h,AO]at i
  refine CL U Ad Aa <|DW 1 (A6 (at' hs k).v (at' xs k)) (λ w M j=>EN (j.f.get (k:=0) U) h0 b) (MO 32 1 U ?_)
  exact G9 120 U U U underlying25 type52 U U Tm.cells_one (by rw[n];omega) λ v'=>AX (k+1,v',y++at' xs k) U U ⟨Aa,Aa,by rw[h,n]⟩ Ag
 rw[mL Aa]at n
 subst n
 exact A2 F U U U λ w M' j=>YU ⟨u,M',rfl,trivial,j.le,j.st,A3⟩
theorem fN{w0 h:World}{M0 M:Mem}{Rs:List HO}(v:Value)(x:Fl)(hS:St w0 M0 h M Rs)(hx:(A6 v x).ok M)(h0:x≠[])(j:len x<=1099511627776):
  Calls prog 135 [v].toArray h (OJ w0 M0 M Rs x):=by
 refine AH (Hr:=Rs) AF func135 U ntmps135 [(0,A6 v x)] [] [.sl 0 v] U hS (AD hx A3) (λ B i=>AR (.v (.bool false)) U U (λ w M e=>.mM (e.sl 0 U) (List.length_pos_iff.2 h0) (A7 (v:=.sl 0 v) (E:=[]) U) underlying25) <|A1 U (λ b=>?_) (λ b=>?_)) U
 ·cases b
 exact IG 2 ([]:List Tm) Tm.cells 11 52 Tm.AS U U Ah U λ u=>G9 120 U U U underlying25 type52 U U Tm.cells_one (by rw[len_nil];omega) λ v'=>A2 i U U U λ w M' e=>YU ⟨v',M',rfl,trivial,e.le,e.st,A3⟩
theorem Ab8{w0 i:World}{M0 M:Mem}{Rs:List HO}(t:Tm)(v:Value)(hs:List AI)(xs:List Fl)(hS:St w0 M0 i M Rs)(hu:(C9 v hs xs).ok M)(s:len xs.flatten<=1000000000000)(j:len hs<=1099511627776):
  Calls prog 177 [.agg t.cells.toArray,v].toArray i (OJ w0 M0 M Rs (t::xs.flatten)):=by
 refine AH (Hr:=Rs) AF func177 U ntmps177 [(0,C9 v hs xs)] [] [.ag (E8 t.cells),.sl 0 v] U hS (AD hu A3) (λ B l=>?_) U
 have n:=A8 xs.flatten
 refine BM 1 U U U λ b=>D7 [1,3,4,5] 5 (λ _ _ _ _ _ h=>h) U BK Ac <|FZ 1 3 U U U ?_ ?_
 ·exact IG 2 [t] Tm.cells 11 52 Tm.AS U U Ah U λ u=>AE U <|AK 3 U U U <|AP [] (λ u:AI=>.sl 3 u.v) [] (λ u=>[(3,ED u.v xs.flatten)]) U U call209 U U (λ w M hS hF=>qY v hs xs hS (hF.get (k:=0) U) Aa j) λ q _=>C6 3 U <|AE U <|AK 4 U U U <|G9 120 U U U underlying25 type52 U U Tm.cells_one (by simp only[AL,len_nil];omega) λ v'=>AE U <|AK 5 U U U <|AE U <|BL U U U <|A2 l U U U λ w M' e=>YU ⟨v',M',rfl,trivial,e.le,e.st.drop _ ((List.sublist_cons_self _ _).cons_cons _),A3⟩
 ·exact AP [] (λ u:AI=>.sl 3 u.v) [] (λ u=>[(3,ED u.v xs.flatten)]) U U call209 U U (λ w M hS hF=>qY v hs xs hS (hF.get (k:=0) U) Aa j) λ q _=>C6 3 U <|AE U <|AK 1 U U U <|IG 2 [t] Tm.cells 11 52 Tm.AS U U Ah U λ u=>AE U <|AK 4 U U U <|G9 120 U U U underlying25 type52 U U Tm.cells_one (by simp only[AL,len_nil];omega) λ v'=>AE U <|AK 5 U U U <|AE U <|BL U U U <|A2 l U U U λ w M' e=>YU ⟨v',M',rfl,trivial,e.le,e.st.drop _ ((List.sublist_cons_self _ _).cons_cons _),A3⟩
theorem qZ{w0 J:World}{M0 M:Mem}{Rs:List HO}(t:Tm)(i:Value)(ns:List A0)(v:Value)(hs:List AI)(xs:List Fl)(hS:St w0 M0 J M Rs)(K:Sl M 1 ns.length i (ns.flatMap DV))(hu:(C9 v hs xs).ok M)(C: ∀x∈xs,x≠[])(W:len xs.flatten<=100000000000)(X:len hs<=16777216):
  Calls prog 146 [.agg t.cells.toArray,i,v].toArray J (OJ w0 M0 M Rs ({ t with many:=len xs}::(G5 ns xs).flatten)):=by
 have D:=dC hu
 have L:=A8 hs
 have N:=A8 ns
 rw[<-D]
 refine AH (Hr:=Rs) AF func146 U ntmps146 [(0,C9 v hs xs),(1,kn i 1 ns DV)] [] [.ag (E8 t.cells),.sl 1 i,.sl 0 v] U hS (AD hu (fc 1 K DO A3)) (λ B O=>BM 1 U U U λ b=>CL U Ad Aa <|U6 6 7 25 1 BX E5 U <|DW 8 (FP [] []) (λ w M j=>⟨Sl.nil M 1,DO,trivial⟩) ?_) U
 refine B7 (σ:=Int×Value×List AI×List Fl) (λ(k,u,gs,ys)=>⟨[(0,C9 v hs xs),(1,kn i 1 ns DV),(6,kn u 1 gs BX),(8,FP gs ys)],[(1,.box b [I t.op,I (len hs),.v (str t.name),.v (str t.s),I t.n,I t.c.kind,I t.c.many,.v (str t.c.name),.v (str t.c.s),.v (.bool t.c.neg),I t.c.e] 52),(6,.ho (.own 25 1 u gs.length (gs.flatMap BX)))],[Z 1 (.sl 1 i),Z 3 (.bx 1 b 0),Z 7 (.sl 6 u),Z 13 (.sl 0 v),Z 14 (I (len hs)),Z 15 (I k)]⟩)
   (λ(k,u,gs,ys)=>0<=k/\k<=len hs/\ys=G5 ns (Eng.sub xs 0 k)/\len gs=k) (λ(k,u,gs,ys)=>(len hs-k).toNat) (0,.slice none 0 0,[],[]) U U ⟨Aa,Aa,rfl,rfl⟩ ?_
 rintro⟨k,u,gs,ys⟩ ⟨h0,h1,E,P⟩
 refine A1 U (λ q=>?_) (λ q=>?_)<;>simp only[zb]at q
 ·have y:=C _ (at_mem (l:=xs) h0 Aa)
  have Q:=GL y
  have F:=XU (xs:=xs) h0 Aa
  have G:=UQ xs (k+1)
  have R:=A8 (J7 xs k)
  rw[F,AO]at G
  refine CL U Ad Aa <|DW 2 (A6 (at' hs k).v (at' xs k)) (λ w M j=>EN (j.f.get (k:=0) U) h0 q) (MO 20 2 U ?_)
  refine AP [] (λ u:AI=>.sl 5 u.v) [] (λ u=>[(5,ED u.v (at' xs k))]) U U call135 U U (λ w M hS hF=>fN (at' hs k).v (at' xs k) hS (hF.get (k:=2) U) y Aa) λ A _=>CQ 0 (λ s=> ∃z:Fl,z=IL ns k (at' xs k)/\s=⟨[(0,C9 v hs xs),(1,kn i 1 ns DV),(6,kn u 1 gs BX),(8,FP gs ys)],[(5,ED A.v z),(1,.box b [I t.op,I (len hs),.v (str t.name),.v (str t.s),I t.n,I t.c.kind,I t.c.many,.v (str t.c.name),.v (str t.c.s),.v (.bool t.c.neg),I t.c.e] 52),(6,.ho (.own 25 1 u gs.length (gs.flatMap BX)))],[Z 1 (.sl 1 i),Z 3 (.bx 1 b 0),Z 7 (.sl 6 u),Z 9 (.sl 5 A.v),Z 13 (.sl 0 v),Z 14 (I (len hs)),Z 15 (I k)]⟩) U U (λ h=>?_) (λ h=>?_) ?_
  ·simp only[zb]at h
   exact I2 { at' (at' xs k) 0 with name:=at' ns k} rfl U U sizeOf9 U U U Aa λ z H=>AT _ U U ⟨z,by rw[H];unfold IL;rw[if_pos h];rfl,rfl⟩
  ·simp only[zb]at h
   exact AT _ U U ⟨_,by unfold IL;rw[if_neg Aa],rfl⟩
  rintro s ⟨z,H,rfl⟩
  refine C6 5 U <|BH 9 [A] BX 1 25 E5 U U Ah U λ v9=>F4 24 U U U underlying53 type25 U U O7 (by simp only[AL,len_nil];omega) λ v'=>DW 8 (FP (gs++[A]) (ys++[z])) (λ w M j=>⟨Sl.nil M 1,DO,B5.snoc (j.sl 5 U) (j.f.get (k:=8) U).more⟩) ?_
  exact AX (k+1,v',gs++[A],ys++[z]) U U ⟨Aa,Aa,by
    rw[G0 h0 Aa,qW,E,H]
    have:len (Eng.sub xs 0 k)=k:=by unfold Eng.sub;unfold len at*;rw[List.length_take,List.length_drop];simp only[Int.toNat_zero];omega
    rw[this],by rw[AO];show len gs+1=_;omega⟩ Ag
 have S:k=len hs:=by omega
 rw[GD Aa]at E
 subst E
 have T:=qX ns xs
 exact AP [] (λ u:AI=>.sl 3 u.v) [] (λ u=>[(3,ED u.v ({ t with many:=len hs}::(G5 ns xs).flatten))]) U U call177 U U (λ w M hS hF=>Ab8 { t with many:=len hs} u gs (G5 ns xs) hS ⟨(hF.get (k:=6) U).sl,E5,(hF.get (k:=8) U).more⟩ Aa Aa) λ V _=>A2 O U U U λ w M' j=>⟨V,M',rfl,trivial,j.le,j.B6 [3] U,A3⟩
theorem Ab9{w0 b:World}{M0 M:Mem}{Rs:List HO}(t:Tm)(v:Value)(h:AI)(x:Tf)(hS:St w0 M0 b M Rs)(e:Sl M 1 [h].length v ([h].flatMap BX))(hx:Sl M 11 x.flat.length h.v (x.flat.flatMap Tm.cells))(j:len x.flat<=100000000000):
  Calls prog 146 [.agg t.cells.toArray,.slice none 0 0,v].toArray b (OJ w0 M0 M Rs (Tf.mk t [x]).flat):=by
 have:=qZ (Rs:=Rs) t (.slice none 0 0) [] v [h] [x.flat] hS (Sl.nil M 1) ⟨e,E5,hx,trivial⟩ (λ y i=>by rw[List.mem_singleton.1 i];exact x.PU) (by simp only[List.flatten_cons,List.flatten_nil,AO,len_nil];omega) (by simp only[AL,len_nil];omega)
 rw[fM]at this
 rw[Tf.UR];exact this
end Go.Proofs.YtnoegalemkbbbaaGreatDoor
namespace Go.Eng
structure Tm.small (t:Tm):Prop where
 name:len t.name<=1048576
 s:len t.s<=1073741824
 c:len t.c.s<=1048576
def Q8(x:Fl):Prop:= ∀t∈x,t.small
theorem Q8.named {x:Tf}(h:Q8 x.flat){n:A0}(b:len n<=1048576):Q8 (x.named n).flat:=by
 cases x with|mk t ps=>
 intro u hu
 rcases List.mem_cons.1 hu with rfl|hu
 ·have:=h { t with many:=len ps} (by unfold Tf.flat;exact List.mem_cons_self)
  exact⟨b,this.s,this.c⟩
 ·exact h u (by unfold Tf.flat;exact List.mem_cons_of_mem _ hu)
end Go.Eng
set_option maxRecDepth 100000
namespace Go.Proofs.YtnoegalemkbbbaaGreatDoor
open Go.Proofs.Tryz
open Go.Eng
open Go.RowKit Go.Eng Go.Sort
theorem r0(l:List A0):l.flatMap DV=l.map encStr:=by
 induction l with
 |nil=>rfl
 |cons a l b=>simp only[List.flatMap_cons,List.map_cons,b];rfl
theorem Ac0{w0 h:World}{M0 M:Mem}{Rs:List HO}(u:Value)(ns:List A0)(hS:St w0 M0 h M (.priv 9 1 u ns.length (ns.flatMap DV)::Rs))(l:len ns<=1099511627776):
  Calls prog 151 [u].toArray h (BF w0 M0 M Rs (λ _:Unit=>.tuple #[]) (λ _=>True) (λ _=>[]) λ _=>[.priv 9 1 u (BQ ns).length ((BQ ns).flatMap DV)]):=by
 have hlen:ns.length<4611686018427387904:=by unfold len at l;omega
 obtain⟨⟨hl,N⟩,k⟩:=hS.obj (i:=0) rfl
 rcases N with⟨rfl,O⟩|⟨g,cap,cur,rfl,hg,C,D,E,F,z⟩
 ·have G:ns=[]:=List.eq_nil_of_length_eq_zero O
  subst G
  refine(Tryz.slices_Sort_string_none none 0 h).mono ?_
  rintro e w' ⟨rfl,rfl⟩
  have e:BQ []=[]:=by unfold BQ;simp
  exact⟨(),M,rfl,trivial,Mem.le.refl _,by rw[e];exact hS,A3⟩
 ·rw[r0,Nat.mul_one]at z
  have hH:Holds encStr h g 0 ns.toArray:=holds_of_block C (by simpa using z)
  have H:g<h.heap.size:=(Array.getElem?_eq_some_iff.1 C).1
  refine(Tryz.slices_Sort_string g 0 cap ns h hH H hlen).mono ?_
  rintro e w' ⟨rfl,K,os,rfl⟩
  have A:(BQ ns).length=ns.length:=by unfold BQ;rw[List.length_mergeSort]
  have q:=grownBy_sorted (w:=h) (g:=g) (n:=K) (os:=os) (BQ ns).toArray
  have B:(grow (putRow encStr (Sort.ahead h K) g 0 (BQ ns).toArray) os).ownsRow w0.heap.size 9 1 (.slice (some ⟨g,0,none⟩) ns.length cap) ns.length ((BQ ns).map encStr):=ownsRow_sorted (by rw[A]) hg C D E F
  refine⟨(),M,rfl,trivial,Mem.le.refl _,?_,A3⟩
  rw[r0,A]
  refine hS.write (i:=0) rfl ((Below.refl _ _).grown q hS.size λ j P=>by cases P;exact hg) ⟨λ b o v s=>?_⟩ (λ _ _ _=>rfl) (λ b l y=>q.block b l λ e=>y e.symm) (λ _ _ _ _=>rfl) ⟨B,λ b l o=>k b l o⟩ (λ _ l=>.inl l)
  have y:b≠g:=λ e=>by subst e;rw[k b rfl o]at s;cases s
  have L:=hS.sat.cell b o v s
  have J:=lt_of_cell L
  have:=q.block b J (λ e=>y (Option.some.inj e))
  rw[<-L]
  exact World.cell?_of_block (a:=⟨b,o,none⟩) this
end Go.Proofs.YtnoegalemkbbbaaGreatDoor
namespace Go.Eng
open Go.RowKit
section
variable {c:Cx} {B:Exit->Act->World->Prop} {k k':List Fr} {m:Md} {s s':XS} {O:Prop} {E:List Ck} {all:Array Oper} {rest:List Oper} {d:Nat} {ty:TypeId} {ps:String} {af:Array Edge}
end
def V8(l:List SV)(seen:Array Nat)(vs:List SV):Prop:=seen.toList=vs.map (·.born)/\(∀p∈vs,p∈l)/\vs.Nodup
theorem V8.push {l:List SV}{seen:Array Nat}{vs:List SV}{p:SV}(h:V8 l seen vs)(hp:p∈l)(j: ¬seen.contains p.born=true):V8 l (seen.push p.born) (vs++[p]):=by
 obtain⟨h1,k,n⟩:=h
 refine⟨by simp[h1],λ q i=>?_,?_⟩
 ·rcases List.mem_append.1 i with i|i
  ·exact k q i
  ·rw[List.mem_singleton.1 i];exact hp
 ·rw[List.nodup_append]
  refine⟨n,by simp,λ a s b w e=>?_⟩
  rw[List.mem_singleton.1 w]at e;subst e
  apply j
  rw[Array.contains_iff_mem,Array.mem_def,h1]
  exact List.mem_map.2 ⟨a,s,rfl⟩
theorem V8.all {l:List SV}{seen:Array Nat}{vs:List SV}(h:V8 l seen vs)(k:(l.map (·.born)).Nodup)(e: ∀p∈l,seen.contains p.born=true):vs.Perm l:=by
 obtain⟨h1,b,y⟩:=h
 have inj: ∀ {l:List SV} {p q:SV},(l.map (·.born)).Nodup->p∈l->q∈l->p.born=q.born->p=q:=by
  intro l
  induction l with
  |nil=>intro p q _ hp;cases hp
  |cons a l s=>
   intro p q n hp j he
   rw[List.map_cons,List.nodup_cons]at n
   rcases List.mem_cons.1 hp with h1|h1
   ·rcases List.mem_cons.1 j with b|b
    ·rw[h1,b]
    ·exact absurd (List.mem_map.2 ⟨q,b,by rw[<-he,h1]⟩) n.1
   ·rcases List.mem_cons.1 j with b|b
    ·exact absurd (List.mem_map.2 ⟨p,h1,by rw[he,b]⟩) n.1
    ·exact s n.2 h1 b he
 have i: ∀p∈l,p∈vs:=by
  intro p hp
  have:=e p hp
  rw[Array.contains_iff_mem,Array.mem_def,h1]at this
  obtain⟨q,j,he⟩:=List.mem_map.1 this
  rw[<-inj k (b q j) hp he];exact j
 have w:l.Nodup:=by
  clear e i inj h1 b y
  induction l with
  |nil=>exact .nil
  |cons a l s=>
   rw[List.map_cons,List.nodup_cons]at k
   exact List.nodup_cons.2 ⟨λ z=>k.1 (List.mem_map.2 ⟨a,z,rfl⟩),s k.2⟩
 exact(List.perm_ext_iff_of_nodup y w).2 λ p=>⟨b p,i p⟩
end Go.Eng
namespace Go.Proofs.YtnoegalemkbbbaaGreatDoor
open Go.Proofs.Tryz
open Go.Eng
end Go.Proofs.YtnoegalemkbbbaaGreatDoor
namespace Go.Eng
end Go.Eng
namespace Go.Proofs.YtnoegalemkbbbaaGreatDoor
open Go.Proofs.Tryz
open Go.Eng
end Go.Proofs.YtnoegalemkbbbaaGreatDoor
