/- Lemmas for the card. -/
import Derived.Test.YtmjpjbmeamnfpaaGreatDoorZf6
import Derived.RangeFuncCalls
import Derived.Shelf.Spec.SlicesGrow
set_option linter.unusedVariables false
set_option linter.unusedSimpArgs false
namespace Go.Eng
open Go.RowKit
def ND{γ:Type}(w:World)(M:Mem)(u:γ->Value)(pu:γ->Prop)(Fg:γ->List (Nat×Kn)):Ending->World->Prop:=
 λ e w'=> ∃g M',e= .returned (u g)/\pu g/\Grow w M w' M'/\BF M' (Fg g)
def DT{γ:Type}(w0:World)(M0 M:Mem)(Rs:List HO)(u:γ->Value)(pu:γ->Prop)(Fg:γ->List (Nat×Kn))(Hg:γ->List HO):Ending->World->Prop:=
 λ e w'=> ∃g M',e= .returned (u g)/\pu g/\M.le M'/\St w0 M0 w' M' (Hg g++Rs)/\BF M' (Fg g)
def RJ:List Nat->List (Nat×Kn)->List (Nat×Kn)
 |k::ks,(_,x)::F=>(k,x)::RJ ks F
 |_,_=>[]
theorem W3{M:Mem}: ∀ {ks:List Nat} {F:List (Nat×Kn)},BF M F->BF M (RJ ks F)
 |[],_,_=>λ x hx=>by cases hx
 |_::_,[],_=>λ x hx=>by cases hx
 |k::ks,(i,x)::F,h=>λ y hy=>by
  rcases List.mem_cons.1 hy with rfl|hy
  ·exact h (i,x) (.head _)
  ·exact W3 (λ z hz=>h z (.tail _ hz)) y hy
theorem BF.app {M:Mem}{F G:List (Nat×Kn)}(h:BF M F)(k:BF M G):BF M (F++G):=λ x hx=>by
 rcases List.mem_append.1 hx with hx|hx
 ·exact h x hx
 ·exact k x hx
theorem BF.mono {M M':Mem}{F:List (Nat×Kn)}(h:BF M F)(hm:M.le M'):BF M' F:=λ x hx=>(h x hx).mono hm
def L1:List Nat->List (Nat×HX)->Option (List (Nat×HX)×List (Nat×HX))
 |[],H=>some ([],H)
 |k::ks,H=>match MD H k with
  |some (x,H')=>match L1 ks H' with
   |some (A,R)=>some ((k,x)::A,R)
   |none=>none
  |none=>none
theorem OJ: ∀ {ks:List Nat} {H A R:List (Nat×HX)},L1 ks H=some (A,R)->(HD A++HD R).Perm (HD H)
 |[],H,A,R,h=>by simp only[L1,Option.some.injEq,Prod.mk.injEq]at h;obtain⟨rfl,rfl⟩:=h;exact .refl _
 |k::ks,H,A,R,h=>by
  unfold L1 at h
  split at h
  ·rename_i x H' h1
   split at h
   ·rename_i A' R' h2
    simp only[Option.some.injEq,Prod.mk.injEq]at h;obtain⟨rfl,rfl⟩:=h
    exact((OJ h2).cons x.d).trans (VY h1)
   ·cases h
  ·cases h
def aF(dd:Option Tmp)(v:XV)(L:XE):XE:=match dd with
 |some d=>(d,.t,v)::L
 |none=>L
def jB(dd:Option Tmp)(N:Nat):Bool:=match dd with
 |some d=>Nat.blt d N
 |none=>true
section
variable {c:Cx} {B:Exit->Act->World->Prop} {k k':List Fr} {m:Md} {s s':XS} {O:Prop} {E:List Ck} {all:Array Oper} {rest:List Oper} {d:Nat} {ty:TypeId} {ps:String} {af:Array Edge}
theorem E5.sl {F:List (Nat×Kn)}{H:List (Nat×HX)}{w:World}{M:Mem}(h:E5 c F H w M)(k:Nat){α:Type}{inh:Inhabited α}{v:Value}{sz:Nat}{l:List α}{f:α->List Value}{g:Mem->Prop}{hg: ∀M M',M.le M'->g M->g M'}(hk:KW F k=some (@Kn.mk α inh v sz l f g hg)):Sl M sz l.length v (l.flatMap f):=(h.f.get hk).sl
def callee(L:XE):Operand->Option (FuncId×List Value×List Value×List Ck)
 | .func f=>some (f,[],[],[])
 |x=>match BZ L .t x with
  |some (.v (.func (.func f) ⟨a⟩ ⟨b⟩),E)=>some (f,a,b,E)
  |_=>none
theorem aG{P:Program}{ops:Array Oper}{Q:Exit->Act->World->Prop}{N:Nat}{L:XE}{w:World}{xf:Operand}{f:FuncId}{a b:List Value}{E1:List Ck}{xs:List Operand}{vs:List Value}{tys:Array TypeId}{R:Ending->World->Prop}{dd:Option Tmp}
  (ct:CT P f) (hf:callee L xf=some (f,a,b,E1)) (hE1:AD E1) (hx:EE L.d true xs vs) (hc:Calls P f (a++vs++b).toArray w R)
  (hr: ∀v w',R (.returned v) w'-> ∀ac,AJ ac N L.d->wpList P ops Q rest (ac.put dd v) w') (hp: ∀ch w',R (.panicked ch) w'-> ∀ac,AJ ac N L.d->Q (.panic ch) ac w') (ho: ∀w',¬R .outgrown w'):
  RL P ops Q N (⟨dd,.call ⟨.value xf,⟨xs⟩,tys⟩,ty,ps,af,none⟩::rest) L.d w:=by
 intro ac hs
 refine wpList_plain U λ K hK=>?_
 have key:(execOp ac.eval ⟨dd,.call ⟨.value xf,⟨xs⟩,tys⟩,ty,ps,af,none⟩).run P w= .ok (.enter f (a++vs++b).toArray) w:=by
  have e1:(⟨xs⟩:Array Operand)=xs.toArray:=rfl
  rw[e1]
  cases xf with
  |func f'=>
   simp only[callee,Option.some.injEq,Prod.mk.injEq]at hf
   obtain⟨rfl,rfl,rfl,rfl⟩:=hf
   simpa using O3 ct hx hs U
  |tmp t=>
   simp only[callee]at hf
   split at hf
   ·rename_i f' a' b' E' h1
    simp only[Option.some.injEq,Prod.mk.injEq]at hf
    obtain⟨rfl,rfl,rfl,rfl⟩:=hf
    exact YO (fs:=a') (cs:=b') ct (AN h1 hE1) hx hs U
   ·cases hf
  |const v=>
   simp only[callee]at hf
   split at hf
   ·rename_i f' a' b' E' h1
    simp only[Option.some.injEq,Prod.mk.injEq]at hf
    obtain⟨rfl,rfl,rfl,rfl⟩:=hf
    exact YO (fs:=a') (cs:=b') ct (AN h1 hE1) hx hs U
   ·cases hf
  |global g=>
   simp only[callee]at hf
   split at hf
   ·rename_i f' a' b' E' h1
    simp only[Option.some.injEq,Prod.mk.injEq]at hf
    obtain⟨rfl,rfl,rfl,rfl⟩:=hf
    exact YO (fs:=a') (cs:=b') ct (AN h1 hE1) hx hs U
   ·cases hf
 simp only[Oper.wp,key,Oper.upon_enter]
 refine hc.mono λ e w' he=>?_
 cases e with
 |returned v=>exact hK _ _ (hr v w' he ac hs)
 |panicked ch=>exact hp ch w' he ac hs
 |outgrown=>exact absurd he (ho w')
theorem TC{N:Nat}{L:XE}{a:Act}(hs:AJ a N L.d){d:Nat}(hd:Nat.blt d N=true)(v:XV):AJ (a.put (some d) v.d) N (XE.d ((d,.t,v)::L)):=hs.put hd true v.d
theorem IL{γ:Type}(ux:γ->XV)(ks:List Nat){u:γ->Value}{pu:γ->Prop}{Fg:γ->List (Nat×Kn)}{xf:Operand}{f:FuncId}{fa fb:List Value}{E1 E2:List Ck}{xs:List Operand}{tys:Array TypeId}{vs:List XV}
  (h:run c.T c.N k m s=⟨k',.ops all (⟨some d,.call ⟨.value xf,⟨xs⟩,tys⟩,ty,ps,af,none⟩::rest),s',O,E⟩) (hE:AD E) (hO:O) (hf:callee s'.L xf=some (f,fa,fb,E1)) (ct:CT c.P f) (hd:Nat.blt d c.N=true) (hx:J6 s'.L .t xs=some (vs,E2)) (hE1:AD (E1++E2))
  (hc: ∀w M,E5 c s'.F s'.H w M->Calls c.P f (fa++vs.map XV.d++fb).toArray w (ND w M u pu Fg)) (hu: ∀g,(ux g).d=u g)
  (hn: ∀g,pu g->XG c B k' (.ops all rest) ⟨RJ ks (Fg g)++s'.F,s'.H,(d,.t,ux g)::s'.L⟩):XG c B k m s:=by
 refine H0 h hE hO λ w M hX=>?_
 refine aG ct hf hE1.app.1 (NB hx hE1.app.2) (hc w M hX) ?_ (λ ch w' hr=>?_) (λ w' hr=>?_)
 ·rintro v w' ⟨g,M',he,hp,hg,hF⟩ ac hs
  cases he
  have:=TC hs hd (ux g)
  rw[hu]at this
  exact c.W.back (hn g hp _ w' ⟨this,M',hX.st.grow hg,(W3 hF).app (hX.f.mono (hg.le hX.st.sat)),hX.le.trans (hg.le hX.st.sat)⟩)
 ·obtain⟨g,M',he,_⟩:=hr;cases he
 ·obtain⟨g,M',he,_⟩:=hr;cases he
theorem BQ{γ:Type}(ids:List Nat)(ux:γ->XV)(ks:List Nat)(Hx:γ->List (Nat×HX)){u:γ->Value}{pu:γ->Prop}{Fg:γ->List (Nat×Kn)}{Hg:γ->List HO}{xf:Operand}{f:FuncId}{fa fb:List Value}{E1 E2:List Ck}{xs:List Operand}{tys:Array TypeId}{vs:List XV}{A R:List (Nat×HX)}{dd:Option Tmp}
  (h:run c.T c.N k m s=⟨k',.ops all (⟨dd,.call ⟨.value xf,⟨xs⟩,tys⟩,ty,ps,af,none⟩::rest),s',O,E⟩) (hE:AD E) (hO:O) (hf:callee s'.L xf=some (f,fa,fb,E1)) (ct:CT c.P f) (hd:jB dd c.N=true) (hx:J6 s'.L .t xs=some (vs,E2)) (hE1:AD (E1++E2))
  (hA:L1 ids s'.H=some (A,R)) (hc: ∀w M,St c.w0 c.M0 w M (HD A++(HD R++c.Hr))->BF M s'.F->Calls c.P f (fa++vs.map XV.d++fb).toArray w (DT c.w0 c.M0 M (HD R++c.Hr) u pu Fg Hg)) (hu: ∀g,(ux g).d=u g) (hH: ∀g,HD (Hx g)=Hg g)
  (hn: ∀g,pu g->XG c B k' (.ops all rest) ⟨RJ ks (Fg g)++s'.F,Hx g++R,aF dd (ux g) s'.L⟩):XG c B k m s:=by
 refine H0 h hE hO λ w M hX=>?_
 have hSt:St c.w0 c.M0 w M (HD A++(HD R++c.Hr)):=hX.st.perm (by rw[<-List.append_assoc];exact(OJ hA).append_right _)
 refine aG ct hf hE1.app.1 (NB hx hE1.app.2) (hc w M hSt hX.f) ?_ (λ ch w' hr=>?_) (λ w' hr=>?_)
 ·rintro v w' ⟨g,M',he,hp,hle,hS,hF⟩ ac hs
  cases he
  have hs2:AJ (ac.put dd (u g)) c.N (XE.d (aF dd (ux g) s'.L)):=by
   cases dd with
   |some d=>have:=TC hs hd (ux g);rw[hu]at this;exact this
   |none=>exact hs
  refine c.W.back (hn g hp _ w' ⟨hs2,M',?_,(W3 hF).app (hX.f.mono hle),hX.le.trans hle⟩)
  have e:HD (Hx g++R)++c.Hr=Hg g++(HD R++c.Hr):=by rw[<-hH];unfold HD;rw[List.map_append,List.append_assoc]
  rw[e];exact hS
 ·obtain⟨g,M',he,_⟩:=hr;cases he
 ·obtain⟨g,M',he,_⟩:=hr;cases he
theorem OK{b:Bool}(hb:b=true){E:List Ck}(h:E=[.b true b]):AD E:=by
 subst h;intro c hc;rw[List.mem_singleton.1 hc];exact λ _=>hb
theorem L3(vd:XV){op:Op}{gd:Option (Nat×Bool)}{b:Bool}(h:run c.T c.N k m s=⟨k',.ops all (⟨some d,op,ty,ps,af,gd⟩::rest),s',O,E⟩)(hE:AD E)(hO:O)(hg:(IJ all s'.L gd,Nat.blt d c.N)=(some (.g b),true))
  (h1:b=true->XG c B k' (.ops all (⟨some d,op,ty,ps,af,none⟩::rest)) s') (h2:b=false->XG c B k' (.ops all rest) ⟨s'.F,s'.H,(d,.g b,vd)::s'.L⟩):XG c B k m s:=by
 simp only[Prod.mk.injEq]at hg
 refine CX h hE hO λ a w ⟨hs,M,hX⟩=>?_
 have hwt:=DB.wanted (o:=⟨some d,op,ty,ps,af,gd⟩) (MC hg.1) hs
 have hbd:(Gd.g b).d=b:=rfl
 rw[hbd]at hwt
 cases b with
 |true=>exact c.W.want hwt (h1 U a w ⟨hs,M,hX⟩)
 |false=>
  refine c.W.one ?_
  unfold wpList
  rw[hwt]
  refine c.W.back (h2 U _ w ⟨?_,M,hX⟩)
  exact hs.put hg.2 false vd.d
def OL(
     T:TT) (H:List (Nat×HX)) (L:XE):List ResultVar->Option (List XV×List Ck)
 |[]=>some ([],[])
 |r::rs=>match OL T H L rs with
  |some (vs,E)=>match r with
   | .tmp t=>match BE L t with
    |some (.t,v)=>some (v::vs,E)
    |_=>none
   | .cell t ty=>match BE L t with
    |some (.t,.bx k b o)=>match VP T [] H ty (.bx k b o)with
     |some (v,[],E')=>some (v::vs,E'++E)
     |_=>none
    |_=>none
  |none=>none
def PL:List XV->Value
 |[v]=>v.d
 |vs=>.tuple (vs.map XV.d).toArray
theorem aH{P:Program}{T:TT}(hT:EH P T){H:List (Nat×HX)}{Hr:List HO}{w0 w:World}{M0 M:Mem}{L:XE}{a:Act}{N:Nat}(hS:St w0 M0 w M (HD H++Hr))(hs:AJ a N L.d): ∀ {rs:List ResultVar} {vs:List XV} {E:List Ck},OL T H L rs=some (vs,E)->AD E->(rs.mapM (JT a.tmps)).run P w= .ok (vs.map XV.d) w
 |[],vs,E,h,_=>by simp only[OL,Option.some.injEq,Prod.mk.injEq]at h;obtain⟨rfl,rfl⟩:=h;rfl
 |r::rs,vs,E,h,hE=>by
  unfold OL at h
  split at h
  ·rename_i vs' E' h1
   have fin: ∀(v:XV),(JT a.tmps r).run P w= .ok v.d w->AD E'->((r::rs).mapM (JT a.tmps)).run P w= .ok ((v::vs').map XV.d) w:=λ v hv hE'=>by
    simp only[List.mapM_cons,Sem.run_bind,hv,Result.andThen_ok,aH hT hS hs h1 hE',Sem.run_pure,List.map_cons]
   split at h
   ·split at h
    ·rename_i t v hl
     simp only[Option.some.injEq,Prod.mk.injEq]at h;obtain⟨rfl,rfl⟩:=h
     exact fin _ (by simp only[JT,hs.get (HC hl)];rfl) hE
    ·cases h
   ·split at h
    ·rename_i t ty x2 k b o hl
     split at h
     ·rename_i v E2 h2
      simp only[Option.some.injEq,Prod.mk.injEq]at h;obtain⟨rfl,rfl⟩:=h
      refine fin _ ?_ hE.app.2
      have hp:PV P (· =w) L.d true ⟨some 0,.load ty (.tmp t),0,"",#[],none⟩ v.d:=iK (W:=.t) (gd:=none) hT (F:=[]) (Hr:=Hr) AA hS AR h2 hE.app.1 (.t (HC hl)) (λ _=>trivial)
      have h3:=hp a N hs U w U
      have h4:=hs.get (HC hl)
      have h5:a.tmps.getD t undef= .pointer (some ⟨b,o,none⟩):=h4
      have h6:a.eval (.tmp t)= .pointer (some ⟨b,o,none⟩):=h5
      simp only[execOp,h6,Sem.run_bind,Instr.loadAt,Instr.sureAddr,Sem.run_pure,Result.andThen_ok]at h3
      simp only[JT,h5,asAddr,Sem.run_bind,Sem.run_pure,Result.andThen_ok]
      cases hl2:(loadVar ty ⟨b,o,none⟩).run P w with
      |ok x w'=>rw[hl2]at h3;simp only[Result.andThen_ok,Result.ok.injEq,Next.value.injEq]at h3;obtain⟨rfl,rfl⟩:=h3;rfl
      |halt x w'=>rw[hl2]at h3;cases h3
     ·cases h
    ·cases h
  ·cases h
theorem A9{fn:Func}{R:Ending->World->Prop}{rs:List ResultVar}{vs:List XV}{E2:List Ck}(hB:Ends c.P fn R B)(hr:fn.results=⟨rs⟩)(h:run c.T c.N k m s=⟨[],.ret,s',O,E⟩)(hE:AD E)(hO:O)(hl:OL c.T s'.H s'.L rs=some (vs,E2))(hE2:AD E2)(hR: ∀w M,E5 c s'.F s'.H w M->R (.returned (PL vs)) w):XG c B k m s:=
 CX h hE hO λ a w ⟨h1,M,h2⟩=>hB.all _ _ _ (bodyPost_ret (v:=PL vs) (by
  rw[YL,hr]
  have h3:=aH c.hT h2.st h1 hl hE2
  have h4:((⟨rs⟩:Array ResultVar).mapM (JT a.tmps)).run c.P w= .ok (vs.map XV.d).toArray w:=by
   rw[Array.mapM_eq_mapM_toList]
   refine(Sem.run_bind' c.P _ _ w).trans ?_
   rw[h3];rfl
  rw[Sem.run_bind,h4]
  simp only[Result.andThen_ok,Sem.run_pure]
  congr 1
  match vs with
  |[]=>rfl
  |[v]=>rfl
  |_::_::_=>simp[PL]) h1.DE (hR w M h2))
theorem TE{fn:Func}{R:Ending->World->Prop}(hB:Ends c.P fn R B)(hr:fn.results= #[])(h:run c.T c.N k m s=⟨[],.next,s',O,E⟩)(hE:AD E)(hO:O)(hR: ∀w M,E5 c s'.F s'.H w M->R (.returned (.tuple #[])) w):XG c B k m s:=
 CX h hE hO λ a w ⟨h1,M,h2⟩=>hB.e0 hr (hR w M h2) a h1
def XQ(c:Cx)(B:Exit->Act->World->Prop)(k:List Fr)(all:Array Oper)(l:List Oper)(s:XS):Prop:= ∀w M,E5 c s.F s.H w M->RQ c.P all (λ w'=>Ext w w') c.N (λ a=> ∀w',St c.w0 c.M0 w' M (HD s.H++c.Hr)->post c B k .normal a w') l s.L.d
theorem J8{id:Nat}{l:List Oper}(h:run c.T c.N k m s=⟨k',.code (.region id ⟨l⟩ true),s',O,E⟩)(hE:AD E)(hO:O)(hm:c.P.follows .mixedOrders=true)(hB:Region.lexB .any l.toArray=true)(hn:XQ c B k' l.toArray l s')(hpl:c.W.plain:=by exact True.intro):XG c B k m s:=
 CX h hE hO λ a w ⟨h1,M,h2⟩=>c.W.draw hpl (CW.P5 h2.st hm hB (hn w M h2) a h1)
structure QR:Type where
 l:List Oper
 L:XE
 O:Prop
 E:List Ck
def TF(W:Gd):List Prop->Prop->(Prop->QR)->QR
 |[],O,K=>K O
 |p::ps,O,K=>match W with
  | .t=>TF W ps (p/\O) K
  | .g b=>TF W ps ((b=false\/p)/\O) K
theorem W4{W:Gd}{K:Prop->QR}: ∀ {ps:List Prop} {O:Prop},∃O',TF W ps O K=K O'/\(O'->(W.d=true->HZ ps)/\O)
 |[],O=>⟨O,rfl,λ h=>⟨λ _=>trivial,h⟩⟩
 |p::ps,O=>by
  unfold TF
  cases W with
  |t=>
   obtain⟨O',h1,h2⟩:=W4 (W:=.t) (K:=K) (ps:=ps) (O:=p/\O)
   exact⟨O',h1,λ h=>⟨λ hW=>⟨(h2 h).2.1,(h2 h).1 hW⟩,(h2 h).2.2⟩⟩
  |g b=>
   obtain⟨O',h1,h2⟩:=W4 (W:=.g b) (K:=K) (ps:=ps) (O:=(b=false\/p)/\O)
   exact⟨O',h1,λ h=>⟨λ hW=>⟨(h2 h).2.1.resolve_left (by rw[show b=true from hW];decide),(h2 h).1 hW⟩,(h2 h).2.2⟩⟩
def J9(
     T:TT) (N:Nat) (F:List (Nat×Kn)) (H:List (Nat×HX)) (all:Array Oper):List Oper->XE->Prop->List Ck->QR
 |[],L,O,E=>⟨[],L,O,E⟩
 |⟨dst,op,ty,ps,af,gd⟩::rest,L,O,E=>match dst with
  |some d=>match IJ all L gd with
   |some W=>match R6 T F H L W op with
    |some (v,p,E')=>match Nat.blt d N with
     |true=>TF W p O λ O'=>J9 T N F H all rest ((d,W,v)::L) O' (E'++E)
     |false=>⟨⟨dst,op,ty,ps,af,gd⟩::rest,L,O,E⟩
    |none=>⟨⟨dst,op,ty,ps,af,gd⟩::rest,L,O,E⟩
   |none=>⟨⟨dst,op,ty,ps,af,gd⟩::rest,L,O,E⟩
  |none=>⟨⟨dst,op,ty,ps,af,gd⟩::rest,L,O,E⟩
theorem W5{F:List (Nat×Kn)}{H:List (Nat×HX)}: ∀ {l:List Oper} {L:XE} {O:Prop} {E:List Ck},let t:=J9 c.T c.N F H all l L O E;t.O->AD t.E->XQ c B k all t.l ⟨F,H,t.L⟩->O/\AD E/\XQ c B k all l ⟨F,H,L⟩
 |[],L,O,E=>λ h1 h2 h3=>⟨h1,h2,h3⟩
 |⟨dst,op,ty,ps,af,gd⟩::rest,L,O,E=>by
  intro t h1 h2 h3
  have ht:t=J9 c.T c.N F H all (⟨dst,op,ty,ps,af,gd⟩::rest) L O E:=rfl
  unfold J9 at ht
  split at ht
  ·rename_i d
   split at ht
   ·rename_i W hW
    split at ht
    ·rename_i v p E' hv
     split at ht
     ·rename_i hd
      obtain⟨O',hi,hO'⟩:=W4 (W:=W) (K:=λ O'=>J9 c.T c.N F H all rest ((d,W,v)::L) O' (E'++E)) (ps:=p) (O:=O)
      rw[ht,hi]at h1 h2 h3
      obtain⟨r1,r2,r3⟩:=W5 h1 h2 h3
      obtain⟨hp,hO2⟩:=hO' r1
      refine⟨hO2,(AD.app r2).2,λ w M hX=>?_⟩
      exact RQ.v (MC hW) (T0 c.hT hX.f hX.st (λ _ h=>h) hv (AD.app r2).1 hp) hd (r3 w M hX)
     ·rw[ht]at h1 h2 h3;exact⟨h1,h2,h3⟩
    ·rw[ht]at h1 h2 h3;exact⟨h1,h2,h3⟩
   ·rw[ht]at h1 h2 h3;exact⟨h1,h2,h3⟩
  ·rw[ht]at h1 h2 h3;exact⟨h1,h2,h3⟩
theorem JA{l:List Oper}{F:List (Nat×Kn)}{H:List (Nat×HX)}{L L':XE}(h:J9 c.T c.N F H all l L ((0:Int)=0) []=⟨[],L',O,E⟩)(hE:AD E)(hO:O)(hn:XG c B k .next ⟨F,H,L'⟩):XQ c B k all l ⟨F,H,L⟩:=by
 have:=W5 (c:=c) (B:=B) (k:=k) (all:=all) (F:=F) (H:=H) (l:=l) (L:=L) (O:=(0:Int)=0) (E:=[])
 rw[h]at this
 exact(this hO hE λ w M hX=>RQ.nil λ a hs w' hS=>hn a w' ⟨hs,M,hS,hX.f,hX.le⟩).2.2
theorem K7{l:List Oper}{F:List (Nat×Kn)}{H:List (Nat×HX)}{L L':XE}{f:FuncId}{xs:List Operand}{tys:Array TypeId}{gd:Option (Nat×Bool)}{W:Gd}{vs:List XV}{E2:List Ck}{u:Value}{v:XV}
  (h:J9 c.T c.N F H all l L ((0:Int)=0) []=⟨⟨some d,.call ⟨.value (.func f),⟨xs⟩,tys⟩,ty,ps,af,gd⟩::rest,L',O,E⟩) (hE:AD E) (hO:O) (ct:CT c.P f) (hg:(IJ all L' gd,Nat.blt d c.N)=(some W,true)) (hx:J6 L' W xs=some (vs,E2)) (hE2:AD E2)
  (hc:W.d=true-> ∀w M,E5 c F H w M->Calls c.P f (vs.map XV.d).toArray w (λ e w'=>e= .returned u/\Ext w w')) (hv:vx u=some v) (hn:XQ c B k all rest ⟨F,H,(d,W,v)::L'⟩):XQ c B k all l ⟨F,H,L⟩:=by
 simp only[Prod.mk.injEq]at hg
 have:=W5 (c:=c) (B:=B) (k:=k) (all:=all) (F:=F) (H:=H) (l:=l) (L:=L) (O:=(0:Int)=0) (E:=[])
 rw[h]at this
 refine(this hO hE λ w M hX=>?_).2.2
 have h4:=hn w M hX
 have h5:XE.d ((d,W,v)::L')=(d,W.d,u)::L'.d:=by rw[<-aB hv];rfl
 have h6:RQ c.P all (λ w'=>Ext w w') c.N (λ a=> ∀w',St c.w0 c.M0 w' M (HD H++c.Hr)->post c B k .normal a w') rest ((d,W.d,u)::L'.d):=h5▸h4
 exact RQ.call (MC hg.1) ct (NB hx hE2) (λ hW w1 hw1=>(hc hW w1 M ⟨hX.st.ext hw1,hX.f,hX.le⟩).mono λ e w' ⟨h1,h2⟩=>⟨h1,hw1.trans h2⟩) hg.2 h6
end
abbrev FR(ro:Option Nat):Fence:= { Fence.wide with round:=ro}
theorem xN{n:Nat}{P:Program}{row:String}{args:Array Value}{w:World}{R:Value->World->Prop}(h:Rows P row args w R):RowsIn Fence.wide n P row args w R:=
 λ c cs _=>let⟨v,w',r,s⟩:=h c cs;⟨v,w',r,stepsIn_wide.2 s⟩
def MH(o:Oper):Bool:=match o.op with
 | .defer _=>false
 |_=>true
theorem xO{o:Oper}(h:MH o=true): ∀c,o.op≠ .defer c:=λ c e=>by unfold MH at h;rw[e]at h;cases h
theorem W6{K:Act->World->Prop}{Q:Exit->Act->World->Prop}(h: ¬LetsOut Q): ¬LetsOut (Exit.then K Q):=λ⟨a,w,x⟩=>h ⟨a,w,x⟩
theorem xP{id:Nat}{Q:Exit->Act->World->Prop}(h: ¬LetsOut Q): ¬LetsOut (Exit.inBlock id Q):=λ⟨a,w,x⟩=>h ⟨a,w,x⟩
theorem jC{P:Program}{ro:Option Nat}{n:Nat}{o:Oper}{a:Act}{w:World}{K:Act->World->Prop}{Q:Exit->Act->World->Prop}(hd:MH o=true)(h:o.wp P a w K Q):o.wpIn (FR ro) n P a w K Q:=by
 refine⟨λ _ _=>trivial,?_⟩
 rw[show(FR ro).round=ro from rfl,show Oper.semAt ro a.eval o=execOp a.eval o by cases ro with|none=>rfl|some l=>exact Oper.semAt_some l a.eval o (xO hd)]
 unfold Oper.wp at h
 generalize (execOp a.eval o).run P w=r at*
 have hdep:((FR ro).depth.isSome=true->1<=n):=λ h=>by cases h
 cases r with
 |ok x w'=>
  cases x with
  |enter f args=>exact⟨hdep,callsIn_wide.2 h⟩
  |row r args=>exact⟨hdep,xN h⟩
  |round l2 f t vs b=>exact absurd h (by simp[Oper.upon])
  |_=>exact h
 |halt s w'=>cases s<;>exact h
theorem W7{P:Program}{ro:Option Nat}{n:Nat}{ops:Array Oper}{Q:Exit->Act->World->Prop}(hl: ¬LetsOut Q)(hd:ops.toList.all MH=true): ∀(l:List Nat) (a:Act) (w:World),wpOps P ops Q l a w->wpOpsIn (FR ro) n P ops Q l a w
 |[],a,w,h=>h
 |i::l,a,w,h=>by
  unfold wpOps at h
  unfold wpOpsIn
  cases ho:ops[i]? with
  |none=>rw[ho]at h;exact W7 hl hd l a w h
  |some o=>
   rw[ho]at h
   dsimp only at h ⊢
   split at h
   ·rename_i hw;rw[if_pos hw]
    rcases h with h|⟨_,h2⟩
    ·have hno:MH o=true:=List.all_eq_true.1 hd o (by rw[Array.mem_toList_iff];exact Array.mem_of_getElem? ho)
     exact jC hno (Oper.wp_mono (λ a w k=>W7 hl hd l a w k) h)
    ·exact absurd h2 hl
   ·rename_i hw;rw[if_neg hw]
    exact⟨λ _ _=>trivial,W7 hl hd l _ w h⟩
def Wk.W8 (P:Program)(ro:Option Nat)(n:Nat):Wk P where
 wp:=λ x Q a w=> ¬LetsOut Q->DM x=true->x.wpIn (FR ro) n P Q a w
 list:=λ ops Q rest a w=> ¬LetsOut Q->rest.all MH=true->wpListIn (FR ro) n P ops Q rest a w
 mono:=λ h hq hl hs=>wpIn_mono (h (λ⟨a,w,x⟩=>hl ⟨a,w,hq _ _ _ x⟩) hs) hq
 skip:=λ h _ _=>wpIn_skip h
 seq:=λ{x y Q a w} h hl hs=>by
  have hs2:DM x=true/\DM y=true:=by simpa[DM]using hs
  refine wpIn_seq (wpIn_mono (h (W6 hl) hs2.1) λ e a w q=>?_)
  exact RI (λ a w k=>k hl hs2.2) (λ _ _ _ h=>h) e a w q
 region:=λ{id ops Q a w} h hl hs=>by
  have hs2:ops.toList.all MH=true:=by
   simp only[DM]at hs
   exact hs
  exact wpIn_region_list (h hl hs2)
 plain:=False
 draw:=λ h=>h.elim
 drawS:=λ{id ops Q a w} h hl hs=>by
  have hs2:ops.toList.all MH=true:=by
   simp only[DM]at hs
   exact hs
  exact wpIn_region_draw λ t=>W7 hl hs2 _ a _ (h t)
 block:=λ h hl hs=>wpIn_block (h (xP hl) hs)
 scope:=λ h hl hs=>by simp[DM]at hs
 exit:=λ h _ _=>wpIn_exit h
 ret:=λ h _ _=>wpIn_ret h
 cond:=λ{o x y t Q a w} hc h hl hs=>by
  have hs2:DM x=true/\DM y=true:=by simpa[DM]using hs
  refine wpIn_cond hc (h hl ?_)
  split
  ·exact hs2.1
  ·exact hs2.2
 loop:=λ{σ x Q a w} J μ s₀ h₀ hr hl hs=>by
  intro b k cs hro hb hrm
  have key: ∀j s a w,μ s=j->J s a w->
    ∃e a' w',Q e a' w'/\ArrivesIn (Machine.fenced P (FR ro)) P (lone (b.atR a (.code x:: .inLoop x::k)) cs w) b k cs e a' w':=by
   intro j
   induction j using Nat.strongRecOn with
   |_ j ih=>
    intro s a w hn hJ
    obtain⟨e,a₁,w₁,hq,harr⟩:=hr s a w hJ (W6 hl) hs b (.inLoop x::k) cs hro hb hrm
    cases e with
    |normal=>
     obtain⟨s',hJ',hlt⟩:=hq
     obtain⟨e₂,a₂,w₂,hq₂,harr₂⟩:=ih (μ s') (hn▸hlt) s' a₁ w₁ rfl hJ'
     exact⟨e₂,a₂,w₂,hq₂,.of_steps (StepsIn.trans harr (.one (fenced_calm hb hrm U) stepR_inLoop)) harr₂⟩
    |exit id=>exact⟨_,a₁,w₁,hq,.pass (x:=.inLoop x) U (λ _ _=>.inl (by simp)) harr⟩
    |goto l=>exact⟨_,a₁,w₁,hq,.pass (x:=.inLoop x) U (λ _ _=>.inl (by simp)) harr⟩
    |ret=>exact⟨_,a₁,w₁,hq,.pass (x:=.inLoop x) U (λ _ _=>.inl (by simp)) harr⟩
    |panic ch=>exact⟨_,a₁,w₁,hq,.pass (x:=.inLoop x) U (λ _ _=>.inl (by simp)) harr⟩
    |outgrown=>exact⟨_,a₁,w₁,hq,.pass (x:=.inLoop x) U (λ _ _=>.inl (by simp)) harr⟩
  obtain⟨e,a',w',hq,harr⟩:=key _ s₀ a w rfl h₀
  exact⟨e,a',w',hq,.of_steps (.one (fenced_calm hb hrm U) stepR_loop) harr⟩
 nil:=λ h _ _=>h
 one:=λ{ops Q o rest a w} h hl hs=>by
  rw[List.all_cons,Bool.and_eq_true]at hs
  unfold wpList at h
  unfold wpListIn
  split at h
  ·rename_i hw;rw[if_pos hw]
   rcases h with h|⟨_,a',w',h2⟩
   ·have h3:=T5 h
    have h4:o.wp P a w (wpListIn (FR ro) n P ops Q rest) Q:=Oper.wp_mono (λ a w (k: ¬LetsOut Q->rest.all MH=true->_)=>k hl hs.2) h3
    exact jC hs.1 h4
   ·exact absurd ⟨a',w',h2⟩ hl
  ·rename_i hw;rw[if_neg hw]
   have h': ¬LetsOut Q->rest.all MH=true->_:=h
   exact⟨λ _ _=>trivial,h' hl hs.2⟩
 want:=λ{ops Q d op ty ps af gd rest a w} hw h hl hs=>by
  have:=h hl hs
  unfold wpListIn at this ⊢
  rw[hw,if_pos U]
  rw[show Region.wanted ⟨d,op,ty,ps,af,none⟩ (yielded ops a.tmps)=true from rfl,if_pos U]at this
  exact this
abbrev Wk.round (P:Program)(l n:Nat):Wk P:=Wk.W8 P (some l) n
def DD(ds:List Deferred)(a:Act):Act:= { a with defers:=a.defers++ds}
def RM(ds:List Deferred)(Q:Exit->Act->World->Prop):Exit->Act->World->Prop:=λ e a w=> ∃a0,a=DD ds a0/\Q e a0 w
theorem PM(ds:List Deferred)(a:Act)(d:Option Tmp)(v:Value):(DD ds a).put d v=DD ds (a.put d v):=by cases d<;>rfl
theorem jD{P:Program}{ds:List Deferred}{o:Oper}{a:Act}{w:World}{K:Act->World->Prop}{Q:Exit->Act->World->Prop}(h:o.wp P a w K Q):
  o.wp P (DD ds a) w (λ a' w'=> ∃a0,a'=DD ds a0/\K a0 w') (RM ds Q):=by
 unfold Oper.wp at*
 rw[show(DD ds a).eval=a.eval from rfl]
 generalize (execOp a.eval o).run P w=r at*
 cases r with
 |ok x w'=>
  cases x with
  |value v=>exact⟨_,PM _ _ _ _,h⟩
  |skip=>exact⟨_,PM _ _ _ _,h⟩
  |defer d=>exact⟨_,PM ds { a with defers:=d::a.defers} _ _,h⟩
  |enter f args=>
   refine Calls.mono h λ e w'' k=>?_
   cases e with
   |returned v=>exact⟨_,PM _ _ _ _,k⟩
   |panicked ch=>exact⟨_,rfl,k⟩
   |outgrown=>obtain⟨a0,w0,k⟩:=k;exact⟨_,w0,a0,rfl,k⟩
  |row r args=>exact Rows.mono h λ v w'' k=>⟨_,PM _ _ _ _,k⟩
  |_=>exact h
 |halt s w'=>cases s<;>first|exact h|exact⟨_,rfl,h⟩
theorem W9{P:Program}{ds:List Deferred}{ops:Array Oper}{Q:Exit->Act->World->Prop}: ∀(l:List Nat) (a:Act) (w:World),wpOps P ops Q l a w->wpOps P ops (RM ds Q) l (DD ds a) w
 |[],a,w,h=>⟨a,rfl,h⟩
 |i::l,a,w,h=>by
  unfold wpOps at h ⊢
  cases ho:ops[i]? with
  |none=>rw[ho]at h;exact W9 l a w h
  |some o=>
   rw[ho]at h
   dsimp only at h ⊢
   rw[show(DD ds a).tmps=a.tmps from rfl]
   split at h
   ·rename_i hw;rw[if_pos hw]
    rcases h with h|⟨h1,a',w',h2⟩
    ·exact .inl (Oper.wp_mono (λ a' w' ⟨a0,e0,k⟩=>by subst e0;exact W9 l a0 w' k) (jD h))
    ·exact .inr ⟨h1,_,w',a',rfl,h2⟩
   ·rename_i hw;rw[if_neg hw,PM];exact W9 l _ w h
def Wk.DE (P:Program)(ds:List Deferred):Wk P where
 wp:=λ x Q a w=>DM x=true->x.wp P (RM ds Q) (DD ds a) w
 list:=λ ops Q l a w=>wpList P ops (RM ds Q) l (DD ds a) w
 mono:=λ h hq hs=>wp_mono (h hs) λ e a w ⟨a0,e0,q⟩=>⟨a0,e0,hq _ _ _ q⟩
 skip:=λ h _=>wp_skip ⟨_,rfl,h⟩
 seq:=λ{x y Q a w} h hs=>by
  have hs2:DM x=true/\DM y=true:=by simpa[DM]using hs
  refine wp_seq (wp_mono (h hs2.1) λ e a w ⟨a0,e0,q⟩=>?_)
  subst e0
  cases e with
  |normal=>exact q hs2.2
  |_=>exact⟨a0,rfl,q⟩
 region:=λ h _=>wp_region_list h
 plain:=False
 draw:=λ h=>h.elim
 drawS:=λ h _=>wp_region_draw λ t=>W9 _ _ _ (h t)
 block:=λ{id x Q a w} h hs=>wp_block (wp_mono (h hs) λ e a w ⟨a0,e0,q⟩=>by
  subst e0
  cases e with
  |exit id'=>
   show if id'=id then _ else _
   have q':if id'=id then Q .normal a0 w else Q (.exit id') a0 w:=q
   split<;>rename_i hid
   ·rw[if_pos hid]at q';exact⟨a0,rfl,q'⟩
   ·rw[if_neg hid]at q';exact⟨a0,rfl,q'⟩
  |_=>exact⟨a0,rfl,q⟩)
 scope:=λ h hs=>by simp[DM]at hs
 exit:=λ h _=>wp_exit ⟨_,rfl,h⟩
 ret:=λ h _=>wp_ret ⟨_,rfl,h⟩
 cond:=λ{o x y t Q a w} hc h hs=>by
  have hs2:DM x=true/\DM y=true:=by simpa[DM]using hs
  refine wp_cond (t:=t) (by rw[show(DD ds a).eval=a.eval from rfl];exact hc) (h ?_)
  split
  ·exact hs2.1
  ·exact hs2.2
 loop:=λ{σ x Q a w} J μ s₀ h₀ hr hs=>by
  refine j4 (λ s a w=> ∃a0,a=DD ds a0/\J s a0 w) μ s₀ ⟨a,rfl,h₀⟩ λ s a w ⟨a0,e0,hJ⟩=>?_
  subst e0
  refine wp_mono (hr s a0 w hJ hs) λ e a w ⟨a1,e1,q⟩=>?_
  subst e1
  cases e with
  |normal=>obtain⟨s',h1,h2⟩:=q;exact⟨s',⟨a1,rfl,h1⟩,h2⟩
  |_=>exact⟨a1,rfl,q⟩
 nil:=λ h=>⟨_,rfl,h⟩
 one:=λ{ops Q o rest a w} h=>by
  unfold wpList at h ⊢
  rw[show(DD ds a).tmps=a.tmps from rfl]
  split at h
  ·rename_i hw;rw[if_pos hw]
   rcases h with h|⟨h1,a',w',h2⟩
   ·exact .inl (Oper.wp_mono (λ a' w' ⟨a0,e0,k⟩=>by subst e0;exact k) (jD (T5 h)))
   ·exact .inr ⟨h1,_,w',a',rfl,h2⟩
  ·rename_i hw;rw[if_neg hw,PM];exact h
 want:=λ{ops Q d op ty ps af gd rest a w} hw h=>by
  unfold wpList at h ⊢
  rw[show(DD ds a).tmps=a.tmps from rfl]at h ⊢
  rw[hw,if_pos U]
  rw[show Region.wanted ⟨d,op,ty,ps,af,none⟩ (yielded ops a.tmps)=true from rfl,if_pos U]at h
  exact h
section
variable {w0 w:World} {M0 M:Mem} {Hs:List HO} {o:Obj} {b:Nat}
theorem St.aI (h:St w0 M0 w M Hs){k:Nat}(hk:Hs[k]? =some (.raw b o))(o':Obj):St w0 M0 (w.putObj b o') M (Hs.set k (.raw b o')):=by
 obtain⟨h1,h2,h3⟩:=h.obj hk
 have hlt:b<w.heap.size:=by
  rcases Nat.lt_or_ge b w.heap.size with h'|h'
  ·exact h'
  ·simp[h']at h2
 refine h.write hk ⟨rfl,rfl,rfl,by rw[World.putObj_size];exact Nat.le_refl _,λ k hk=>World.putObj_heap_other (by omega)⟩ ⟨λ b' o2 v hv=>?_⟩ (λ _ _ _=>rfl) (λ b' _ hne=>World.putObj_heap_other (λ e=>hne (by rw[e];rfl))) (λ _ _ _ _=>rfl) ⟨h1,World.putObj_heap_same hlt,h3⟩ (λ _ hb=>.inl hb)
 have hne:b'≠b:=λ e=>by subst e;rw[h3]at hv;cases hv
 have:=h.sat.cell b' o2 v hv
 simp only[World.cell?,World.putObj_heap_other hne]at this ⊢;exact this
end
abbrev jE(P:Program)(l:Nat)(vs:Array Value)(w:World)(R:Ending->World->Prop):Prop:=YieldAt Fence.wide 0 P l vs w R
def pz:List Tmp->List XV->XE->XE
 |t::ts,v::vs,L=>pz ts vs ((t,.t,v)::L)
 |_,_,L=>L
def RN(N:Nat):List Tmp->List XV->Bool
 |[],[]=>true
 |t::ts,_::vs=>Nat.blt t N&&RN N ts vs
 |_,_=>false
theorem jF{N:Nat}: ∀(ps:List Tmp) (vs:List XV) {L:XE} {a:Act},RN N ps vs=true->AJ a N L.d->
  AJ { tmps:=(ps.zip (vs.map XV.d)).foldl (λ t (x:Tmp×Value)=>t.setIfInBounds x.1 x.2) a.tmps,defers:=[]} N (pz ps vs L).d
 |[],[],L,a,_,hs=>⟨hs.size,rfl,hs.val⟩
 |t::ts,v::vs,L,a,h,hs=>by
  unfold RN at h
  rw[Bool.and_eq_true]at h
  exact jF ts vs (a:=a.put (some t) v.d) h.2 (TC hs h.1 v)
 |[],_::_,_,_,h,_=>by cases h
 |_::_,[],_,_,h,_=>by cases h
abbrev EI:Obj:=.deferred (some [])
def cR(c:Cx)(l D:Nat)(r:Obj)(M:Mem):Cx:= { c with M1:=M,Hr:=.raw l r:: .raw D EI::c.Hr,W:=Wk.round c.P l 0}
theorem aJ{c:Cx}{l D:Nat}{r r':Obj}{M:Mem}{s:XS}{a:Act}{w:World}(h:GY (cR c l D r M) s a w):w.heap[l]? =some r/\GY (cR c l D r' M) s a (w.putObj l r'):=by
 obtain⟨h1,M',h2,h3,h4⟩:=h
 have h2:St c.w0 c.M0 w M' (HD s.H++(.raw l r:: .raw D EI::c.Hr)):=h2
 have hi:(HD s.H++(.raw l r:: .raw D EI::c.Hr))[(HD s.H).length]? =some (.raw l r):=by simp
 refine⟨(h2.obj hi).2.1,h1,M',?_,h3,h4⟩
 have:=h2.aI hi r'
 have e:(HD s.H++(.raw l r:: .raw D EI::c.Hr)).set (HD s.H).length (.raw l r')=HD s.H++(.raw l r':: .raw D EI::c.Hr):=by simp
 rw[e]at this;exact this
abbrev nB:Exit->Act->World->Prop:=λ _ _ _=>False
theorem xQ: ¬LetsOut nB:=λ⟨_,_,h⟩=>h
theorem jG{N:Nat}: ∀ {ps:List Tmp} {vs:List XV},RN N ps vs=true->vs.length=ps.length
 |[],[],_=>rfl
 |t::ts,v::vs,h=>by
  unfold RN at h
  rw[Bool.and_eq_true]at h
  simp[jG h.2]
 |[],_::_,h=>by cases h
 |_::_,[],h=>by cases h
theorem E5.sub {c:Cx}{s s':XS}{w:World}{M:Mem}(h:E5 c s.F s.H w M)(hs:s'.sub s):E5 c s'.F s'.H w M:=by
 obtain⟨_,k2,R,k3⟩:=hs
 refine⟨?_,k2 M h.f,h.le⟩
 have hp:((HD s'.H++c.Hr)++R).Perm (HD s.H++c.Hr):=by
  refine List.Perm.trans ?_ (k3.append_right c.Hr)
  rw[List.append_assoc,List.append_assoc]
  exact(List.perm_append_comm).append_left _
 exact(h.st.perm hp).drop _ (List.sublist_append_left _ _)
theorem xR{A B:List HO}{x y:HO}:(A++(x::y::B)).Perm (x::y::(A++B)):=
 List.perm_middle.trans ((List.perm_middle).cons x)
structure NF (P:Program) (fn:Func) (R:Ending->World->Prop) (Q:Exit->Act->World->Prop):Prop where
 all: ∀e a w,bodyPostM Fence.wide 1 P fn R e a w->Q e a w
theorem jH{P:Program}{N:Nat}{w0 w:World}{M0 M:Mem}{Hr:List HO}{T:TT}(hT:EH P T){f:FuncId}{fn:Func}{x:Code}{R:Ending->World->Prop}(hf:P.funcs[f]? =some fn)(hb:fn.body=some x)(hn:fn.ntmps=N)
  (F:List (Nat×Kn)) (H:List (Nat×HX)) (vs:List XV) (hl:Nat.ble vs.length N=true) (hS:St w0 M0 w M (HD H++Hr)) (hF:BF M F)
  (h: ∀B,NF P fn R B->XG ⟨P,N,w0,M0,M,Hr,T,hT,.wide P⟩ B [] (.code x) ⟨F,H,NA 0 vs⟩) {av:List Value} (ha:vs.map XV.d=av):Calls P f av.toArray w R:=by
 subst ha
 refine(callsIn_wide (n:=1)).1 (callsIn_of_wp_marks hf hb trivial (wpIn_wide.2 ?_) U)
 rw[hn]
 have hs:=AJ.enter (vs.map XV.d) N (by rw[List.length_map];exact Nat.le_of_ble_eq_true hl)
 exact h _ ⟨λ _ _ _ h=>h⟩ _ w ⟨by rw[<-RC]at hs;exact hs,M,hS,hF,Mem.le.refl _⟩
theorem NF.ends {P:Program}{fn:Func}{R:Ending->World->Prop}{Q:Exit->Act->World->Prop}(E:NF P fn R Q):Ends P fn R Q:=⟨λ e a w h=>E.all e a w (by
 cases e with
 |normal=>obtain⟨hd,h⟩:=h;show LeavesInM _ _ _ _ _ _ a.defers _ _;rw[hd];exact h
 |ret=>obtain⟨hd,h⟩:=h;show LeavesInM _ _ _ _ _ _ a.defers _ _;rw[hd];exact h
 |panic ch=>obtain⟨hd,h⟩:=h;show LeavesInM _ _ _ _ _ _ a.defers _ _;rw[hd];exact h
 |outgrown=>exact h
 |exit id=>exact h.elim
 |goto l=>exact h.elim)⟩
abbrev IM(D:Nat):List Deferred:=[⟨.collected D,#[]⟩]
def cD(c:Cx)(D:Nat):Cx:= { c with W:=Wk.DE c.P (IM D)}
def bD(D:Nat)(B:Exit->Act->World->Prop):Exit->Act->World->Prop:=λ e a w=>B e (DD (IM D) a) w
def NG:List Fr->Bool
 |[]=>true
 | .seq y::k=>DM y&&NG k
 | .block _::k=>NG k
 | .scope::k=>NG k
 | .loop _::_=>false
theorem WA{c:Cx}{D:Nat}{B:Exit->Act->World->Prop}(hw: ∀x Q a w,x.wp c.P Q a w->c.W.wp x Q a w): ∀(k:List Fr),NG k=true-> ∀e a w,post (cD c D) (bD D B) k e a w->post c B k e (DD (IM D) a) w
 |[],_,e,a,w,h=>h
 | .seq y::k,hk,e,a,w,h=>by
  unfold NG at hk
  rw[Bool.and_eq_true]at hk
  have ih:=WA (D:=D) (B:=B) hw k hk.2
  cases e with
  |normal=>
   have h:DM y=true->y.wp c.P (RM (IM D) (post (cD c D) (bD D B) k)) (DD (IM D) a) w:=h
   refine hw _ _ _ _ (wp_mono (h hk.1) λ e a w ⟨a0,e0,q⟩=>?_)
   subst e0;exact ih _ _ _ q
  |_=>exact ih _ a w h
 | .block id::k,hk,e,a,w,h=>by
  have ih:=WA (D:=D) (B:=B) hw k hk
  cases e with
  |exit id'=>
   have h:if id'=id then post (cD c D) (bD D B) k .normal a w else post (cD c D) (bD D B) k (.exit id') a w:=h
   show if id'=id then _ else _
   split<;>rename_i hid
   ·rw[if_pos hid]at h;exact ih _ a w h
   ·rw[if_neg hid]at h;exact ih _ a w h
  |_=>exact ih _ a w h
 | .scope::k,hk,e,a,w,h=>by
  have ih:=WA (D:=D) (B:=B) hw k hk
  cases e<;>first|exact h.elim|exact ih _ a w h
 | .loop J::k,hk,_,_,_,_=>by cases hk
theorem xS{c:Cx}{B:Exit->Act->World->Prop}{k':List Fr}(dk:Nat){s:XS}(hw: ∀x Q a w,x.wp c.P Q a w->c.W.wp x Q a w)(hk:NG k'=true){D:Nat}(h:XG (cD c D) (bD D B) k' .next ⟨s.F,(dk,.ho (.raw D EI))::s.H,s.L⟩):
  ∀a w,AJ a c.N s.L.d->(∃M,St c.w0 c.M0 w M (HD s.H++(.raw D EI::c.Hr))/\BF M s.F/\c.M1.le M)->post c B k' .normal (DD (IM D) a) w:=
 λ a w hs ⟨M,h1,h2,h3⟩=>WA hw k' hk _ _ _ (h a w ⟨hs,M,h1.perm (List.perm_middle.symm),h2,h3⟩)
theorem NF.DE {P:Program}{fn:Func}{R:Ending->World->Prop}{Q:Exit->Act->World->Prop}(E:NF P fn R Q){t:Tmp}(hr:fn.results= #[.tmp t])(D:Nat):
  Ends P fn (λ e w=>e≠ .outgrown/\w.heap[D]? =some EI/\R e (w.putObj D (.deferred none))) (bD D Q):=⟨λ e a w h=>E.all e (DD (IM D) a) w (by
 have key: ∀(v:Value),(results fn a.tmps).run P w= .ok v w->(results fn a.tmps).run P (w.putObj D (.deferred none))= .ok v (w.putObj D (.deferred none)):=by
  intro v hv
  rw[results_tmp hr]at hv ⊢
  cases hv;rfl
 cases e with
 |normal=>
  obtain⟨hd,v,hv,_,hD,hR⟩:=h
  show LeavesInM _ _ _ _ _ _ (a.defers++IM D) _ _
  rw[hd]
  exact⟨by simp,.inl ⟨D,_,rfl,run_takeDeferred hD,v,key v hv,hR⟩⟩
 |ret=>
  obtain⟨hd,v,hv,_,hD,hR⟩:=h
  show LeavesInM _ _ _ _ _ _ (a.defers++IM D) _ _
  rw[hd]
  exact⟨by simp,.inl ⟨D,_,rfl,run_takeDeferred hD,v,key v hv,hR⟩⟩
 |panic ch=>
  obtain⟨hd,_,hD,hR⟩:=h
  show LeavesInM _ _ _ _ _ _ (a.defers++IM D) _ _
  rw[hd]
  exact⟨by simp,.inl ⟨D,_,rfl,run_takeDeferred hD,hR⟩⟩
 |outgrown=>exact absurd U h.1
 |exit id=>exact h.elim
 |goto l=>exact h.elim)⟩
section
variable {c:Cx} {B:Exit->Act->World->Prop} {k k':List Fr} {m:Md} {s s':XS} {O:Prop} {E:List Ck} {all:Array Oper} {rest:List Oper} {d:Nat} {ty:TypeId} {ps:String} {af:Array Edge}
theorem jI{F:List (Nat×Kn)}{H:List (Nat×HX)}{w:World}{M:Mem}(hX:E5 c F H w M){post:Act->Prop}: ∀ {l:List Oper} {L:XE} {O:Prop} {E:List Ck},let t:=J9 c.T c.N F H all l L O E;t.O->AD t.E->RS c.P all w c.N post t.l t.L.d->O/\AD E/\RS c.P all w c.N post l L.d
 |[],L,O,E=>λ h1 h2 h3=>⟨h1,h2,h3⟩
 |⟨dst,op,ty,ps,af,gd⟩::rest,L,O,E=>by
  intro t h1 h2 h3
  have ht:t=J9 c.T c.N F H all (⟨dst,op,ty,ps,af,gd⟩::rest) L O E:=rfl
  unfold J9 at ht
  split at ht
  ·rename_i d
   split at ht
   ·rename_i W hW
    split at ht
    ·rename_i v p E' hv
     split at ht
     ·rename_i hd
      obtain⟨O',hi,hO'⟩:=W4 (W:=W) (K:=λ O'=>J9 c.T c.N F H all rest ((d,W,v)::L) O' (E'++E)) (ps:=p) (O:=O)
      rw[ht,hi]at h1 h2 h3
      obtain⟨r1,r2,r3⟩:=jI hX h1 h2 h3
      obtain⟨hp,hO2⟩:=hO' r1
      exact⟨hO2,(AD.app r2).2,RS.v (MC hW) (T0 c.hT hX.f hX.st AR hv (AD.app r2).1 hp) hd r3⟩
     ·rw[ht]at h1 h2 h3;exact⟨h1,h2,h3⟩
    ·rw[ht]at h1 h2 h3;exact⟨h1,h2,h3⟩
   ·rw[ht]at h1 h2 h3;exact⟨h1,h2,h3⟩
  ·rw[ht]at h1 h2 h3;exact⟨h1,h2,h3⟩
theorem xT(n:Nat){id:Nat}{l:List Oper}{L':XE}{O2:Prop}{E2:List Ck}(hl: ∀ops Q l a w,c.W.list ops Q l a w->wpList c.P ops Q l a w)(h:run c.T c.N k m s=⟨k',.code (.region id ⟨l⟩ true),s',O,E⟩)(hE:AD E)(hO:O)(hm:c.P.follows .mixedOrders=true)(hB:Region.lexTailB .any l.toArray n=true)
  (hq:J9 c.T c.N s'.F s'.H l.toArray (l.take n) s'.L ((0:Int)=0) []=⟨[],L',O2,E2⟩) (hE2:AD E2) (hO2:O2) (hn:XG c B k' (.ops l.toArray (l.drop n)) ⟨s'.F,s'.H,L'⟩) (hpl:c.W.plain:=by exact True.intro):XG c B k m s:=
 CX h hE hO λ a w ⟨h1,M,h2⟩=>c.W.draw hpl (CW.sS n h2.st hm hB (λ w1 hS=>by
  have hX:E5 c s'.F s'.H w1 M:=⟨hS,h2.f,h2.le⟩
  have:=jI (all:=l.toArray) hX (post:=λ a'=>wpList c.P l.toArray (post c B k') (l.drop n) a' w1) (l:=l.take n) (L:=s'.L) (O:=(0:Int)=0) (E:=[])
  rw[hq]at this
  exact(this hO2 hE2 (RS.nil λ a hs=>hl _ _ _ _ _ (hn a w1 ⟨hs,M,hX⟩))).2.2) a h1)
def OM{α:Type}(w0:World)(M0 M:Mem)(Rs:List HO)(T:TypeId)(r:PR α)(X:α->Int->Ending->World->Prop):Ending->World->Prop:=match r with
 | .ok x j=>X x j
 | .er ec p=>λ e w'=> ∃M',e= .panicked [PD T ec p]/\St w0 M0 w' M' Rs/\M.le M'
theorem GM(ids:List Nat){tw:TypeId}{ec p:Int}{xf:Operand}{f:FuncId}{fa fb:List Value}{E1 E2:List Ck}{xs:List Operand}{tys:Array TypeId}{vs:List XV}{A R:List (Nat×HX)}{dd:Option Tmp}
  (h:run c.T c.N k m s=⟨k',.ops all (⟨dd,.call ⟨.value xf,⟨xs⟩,tys⟩,ty,ps,af,none⟩::rest),s',O,E⟩) (hE:AD E) (hO:O) (hf:callee s'.L xf=some (f,fa,fb,E1)) (ct:CT c.P f) (hx:J6 s'.L .t xs=some (vs,E2)) (hE1:AD (E1++E2))
  (hA:L1 ids s'.H=some (A,R)) (hc: ∀w M,St c.w0 c.M0 w M (HD A++(HD R++c.Hr))->BF M s'.F->Calls c.P f (fa++vs.map XV.d++fb).toArray w (λ e w'=> ∃M',e= .panicked [PD tw ec p]/\St c.w0 c.M0 w' M' (HD R++c.Hr)/\M.le M'))
  (hp: ∀a w M,AJ a c.N s'.L.d->St c.w0 c.M0 w M (HD R++c.Hr)->c.M1.le M->post c B k' (.panic [PD tw ec p]) a w):XG c B k m s:=by
 refine H0 h hE hO λ w M hX=>?_
 have hSt:St c.w0 c.M0 w M (HD A++(HD R++c.Hr)):=hX.st.perm (by rw[<-List.append_assoc];exact(OJ hA).append_right _)
 refine aG ct hf hE1.app.1 (NB hx hE1.app.2) (hc w M hSt hX.f) (λ v w' hr=>?_) (λ ch w' hr ac hs=>?_) (λ w' hr=>?_)
 ·obtain⟨M',he,_⟩:=hr;cases he
 ·obtain⟨M',he,hS,hle⟩:=hr
  cases he
  exact hp ac w' M' hs hS (hX.le.trans hle)
 ·obtain⟨M',he,_⟩:=hr;cases he
theorem xU{dd:Option Tmp}{x:Operand}{v:XV}{t:TypeId}{u:Value}{E1:List Ck}(h:run c.T c.N k m s=⟨k',.ops all (⟨dd,.panic x,ty,ps,af,none⟩::rest),s',O,E⟩)(hE:AD E)(hO:O)(hx:BZ s'.L .t x=some (v,E1))(hE1:AD E1)(hv:v.d= .iface t u)
  (hp: ∀a w M,AJ a c.N s'.L.d->E5 c s'.F s'.H w M->post c B k' (.panic [{ v:=.iface t u,recovered:=false}]) a w):XG c B k m s:=
 H0 h hE hO λ w M hX=>RL.panic (by have:=AN hx hE1;rw[hv]at this;exact this) λ a hs=>hp a w M hs hX
theorem EW{ch:List PanicEntry}: ∀(k:List Fr) {a:Act} {w:World},B (.panic ch) a w->post c B k (.panic ch) a w
 |[],_,_,h=>h
 | .seq y::k,_,_,h=>EW k h
 | .block id::k,_,_,h=>EW k h
 | .scope::k,_,_,h=>EW k h
 | .loop J::k,_,_,h=>EW k h
def aK:List Fr->Bool
 |[]=>true
 | .loop _::_=>false
 |_::k=>aK k
theorem WB{X:List HO}: ∀(k:List Fr),aK k=true->post { c with Hr:=X} B k=post c B k
 |[],_=>rfl
 | .seq y::k,h=>by
  have ih:=WB (X:=X) k h
  show Exit.then (c.W.wp y (post { c with Hr:=X} B k)) (post { c with Hr:=X} B k)=_
  rw[ih];rfl
 | .block id::k,h=>by
  have ih:=WB (X:=X) k h
  show Exit.inBlock id (post { c with Hr:=X} B k)=_
  rw[ih];rfl
 | .scope::k,h=>by
  have ih:=WB (X:=X) k h
  show Exit.noGoto (post { c with Hr:=X} B k)=_
  rw[ih];rfl
 | .loop J::k,h=>by cases h
theorem WC(ids:List Nat){A R:List (Nat×HX)}(hA:L1 ids s.H=some (A,R))(hk:aK k=true)(h:XG { c with Hr:=HD A++c.Hr} B k m ⟨s.F,R,s.L⟩):XG c B k m s:=by
 intro a w hs
 obtain⟨h1,M,h2⟩:=hs
 have hSt:St c.w0 c.M0 w M (HD R++(HD A++c.Hr)):=h2.st.perm (by
  rw[<-List.append_assoc]
  exact(List.perm_append_comm.trans (OJ hA)).append_right _)
 have:=h a w ⟨h1,M,hSt,h2.f,h2.le⟩
 rw[WB k hk]at this
 exact this
end
end Go.Eng
set_option maxRecDepth 100000
namespace Go.Proofs.YtmjpjbmeamnfpaaGreatDoor
open Go.Proofs.Tryz
open Go.Eng
theorem EM:prog.follows .mixedOrders=true:=by kernel_rfl
abbrev EB(t:Tk):XV:=.ag [I t.kind,.v (str t.s),I t.c.kind,I t.c.many,.v (str t.c.name),.v (str t.c.s),.v (.bool t.c.neg),I t.c.e,I t.pos]
end Go.Proofs.YtmjpjbmeamnfpaaGreatDoor
namespace Go.Eng
open Go.RowKit
def I0:A1:=[97,110,121]
def xV:A1:=[110,117,109]
def xW:A1:=[115,116,114]
def JB:A1:=[116,117,112]
def JC:A1:=[101,110,116,114,105,101,115]
def K8:A1:=[115,111,114,116,101,100]
def K9:A1:=[103,114,111,117,112,101,100]
def C0:List A1:=[K2,K1,K0,xV,xW]
def MI(l:List Tk)(m i:Int):PR Int:=
 if(at' l i).kind=2/\(at' l i).s∈C0/\(m.toNat/2^ (C0.idxOf (at' l i).s))%2=0 then .ok (m+(2^ (C0.idxOf (at' l i).s):Nat)) (i+1)else D0 l i 1
def JD:Nat->List Tk->Int->Int->PR Int
 |0,l,_,i=>D0 l i 1
 |f+1,l,m,i=>if AG l i [124]then(MI l m (i+1)).bind λ n j=>JD f l n j else .ok m i
def L4(l:List Tk)(i:Int):PR Tf:=
 if(at' l i).kind=1/\(at' l i).s∈CJ then(GK l (i+1)).bind λ c k=>.ok (.mk ⟨9,0,[],[],(CJ.idxOf (at' l i).s:Nat),c⟩ []) k else D0 l i 1
def KA:Nat->List Tk->List Tf->Int->PR (List Tf)
 |0,l,_,i=>D0 l i 1
 |f+1,l,xs,i=>if AG l i [44]then(L4 l (i+1)).bind λ x j=>KA f l (xs++[x]) j else .ok xs i
def L5(m:Int)(xs:List Tf):Tf:=.mk { BJ 1 with n:=m} xs
def NH(l:List Tk)(d i:Int):PR Tf:=(MI l 0 i).bind λ m0 i0=>(JD l.length l m0 i0).bind λ m j=>
 if AG l j [40]then(EA l d j [40]).bind λ _ k=>(L4 l k).bind λ x n=>(KA l.length l [x] n).bind λ xs o=>(B6 l o [41]).bind λ _ p=>.ok (L5 m xs) p
 else .ok (L5 m []) j
def PN(x:Tf):List Tf->List Tf
 |[]=>[x]
 |y::l=>if x.t.name<=y.t.name then x::y::l else y::PN x l
def MJ:List Tf->List Tf
 |[]=>[]
 |x::l=>PN x (MJ l)
def FQ(o:Int)(xs:List Tf):Tf:=.mk { BJ 2 with n:=o} (MJ xs)
def GN(q:A1->A1)(rt:Tf->Bool)(l:List Tk)(kind i:Int)(x:Int->PR Tf):PR Tf:=
 (OF q l i).bind λ s j=>(B6 l j [44]).bind λ _ k=>(x k).bind λ y m=>(B6 l m [41]).bind λ _ n=>
  if rt (Tf.mk { BJ kind with s:=s} [y.named []])then .ok (.mk { BJ kind with s:=s} [y]) n else D0 l i 1
mutual
def C3(q:A1->A1)(rt:Tf->Bool):Nat->List Tk->Int->Int->PR Tf
 |0,l,_,i=>D0 l i 1
 |f+1,l,d,i=>
  if(at' l i).kind=2 then JE q rt f l d i
  else if AG l i [123]then(EA l d i [123]).bind λ _ j=>FT q rt f l (d+1) [] j
  else(EA l d i [91]).bind λ _ j=>(C3 q rt f l (d+1) j).bind λ x k=>(B6 l k [93]).bind λ _ m=>.ok (.mk (BJ 5) [x]) m
def JE(q:A1->A1)(rt:Tf->Bool):Nat->List Tk->Int->Int->PR Tf
 |0,l,_,i=>D0 l i 1
 |f+1,l,d,i=>
  if(at' l i).s=I0 then .ok (.mk (BJ 0) []) (i+1)
  else if(at' l i).s=JB then(EA l d (i+1) [40]).bind λ _ j=>(HG q rt f l (d+1) [] j).bind λ x k=>(B6 l k [41]).bind λ _ m=>.ok x m
  else if(at' l i).s=JC then(EA l d (i+1) [40]).bind λ _ j=>(C3 q rt f l (d+1) j).bind λ x k=>(B6 l k [41]).bind λ _ m=>.ok (.mk (BJ 6) [x]) m
  else if(at' l i).s=K8 then(EA l d (i+1) [40]).bind λ _ j=>GN q rt l 7 j (C3 q rt f l (d+1))
  else if(at' l i).s=K9 then(EA l d (i+1) [40]).bind λ _ j=>GN q rt l 8 j (C3 q rt f l (d+1))
  else NH l d i
def FT(q:A1->A1)(rt:Tf->Bool):Nat->List Tk->Int->List Tf->Int->PR Tf
 |0,l,_,_,i=>D0 l i 1
 |f+1,l,d,xs,i=>
  if AG l i [125]then .ok (FQ 0 xs) (i+1)
  else(if xs.isEmpty then .ok () i else B6 l i [44]).bind λ _ j=>
   if AG l j [63]then
    if xs.isEmpty&&AG l (j+1) [58]then(C3 q rt f l d (j+2)).bind λ x k=>(B6 l k [125]).bind λ _ m=>.ok (.mk (BJ 3) [x]) m
    else(B6 l (j+1) [125]).bind λ _ m=>.ok (FQ 1 xs) m
   else if(at' l j).kind≠2/\(at' l j).kind≠4\/(at' l j).s∈xs.map (λ x=>x.t.name)then D0 l j 1
   else(B6 l (j+1) [58]).bind λ _ k=>(C3 q rt f l d k).bind λ x m=>FT q rt f l d (xs++[x.named (at' l j).s]) m
def HG(q:A1->A1)(rt:Tf->Bool):Nat->List Tk->Int->List Tf->Int->PR Tf
 |0,l,_,_,i=>D0 l i 1
 |f+1,l,d,xs,i=>
  if AG l i [41]then .ok (.mk (BJ 4) xs) i
  else(if xs.isEmpty then .ok () i else B6 l i [44]).bind λ _ j=>(C3 q rt f l d j).bind λ x m=>HG q rt f l d (xs++[x]) m
end
def TG(q:A1->A1)(rt:Tf->Bool)(l:List Tk):Fl×Int×Int:=match C3 q rt (4*l.length+4) l 0 0 with
 | .er c p=>([],p,c)
 | .ok x j=>if(at' l j).kind=6 then(x.flat,0,0)else([],(at' l j).pos,1)
def F1(q:A1->A1)(rt:Tf->Bool)(s:A1):Fl×Int×Int:=if(C6 s).2.2≠0 then([],(C6 s).2.1,(C6 s).2.2)else TG q rt (C6 s).1
end Go.Eng
namespace Go.Proofs.YtmjpjbmeamnfpaaGreatDoor
open Go.Proofs.Tryz
open Go.Eng
abbrev FF(b:Nat)(v:Value)(i d:Int):HO:=.box b [v,i64 i,i64 d] 86
abbrev AV(b:Nat)(v:Value)(i d:Int):HX:=.box b [.sl 0 v,I i,I d] 86
theorem EN{w0 wv:World}{M0 M:Mem}{Rs:List HO}{b:Nat}{v:Value}{l:List Tk}{i d:Int}(hS:St w0 M0 wv M (FF b v i d::Rs))(hl:Sl M 9 l.length v (l.flatMap Tk.cells))(h0:0<=i)(h1:i<len l):
  Calls prog 41 [.pointer (some ⟨b,0,none⟩)].toArray wv (DT w0 M0 M Rs (λ _:Unit=>fE (at' l i)) (λ _=>True) (λ _=>[]) λ _=>[FF b v i d]):=by
 refine AU (Hr:=Rs) AP func41 U ntmps41 [(0,kn v 9 l Tk.cells)] [(0,AV b v i d)] [.bx 0 b 0] U hS (fc 0 hl (λ _=>rfl) AA) (λ B hB=>?_) U
 refine CU 1 U (A0 U) U zeroValue63 U λ b1=>?_
 refine xT 10 (λ _ _ _ _ _ h=>h) U (A0 U) U EM (by decide+kernel) U (A0 U) (by simp only[zb]<;>omega) ?_
 exact A9 hB rfl rfl (A0 rfl) U rfl (A0 rfl) λ w M' hX=>⟨(),M',rfl,trivial,hX.le,hX.st.drop _ (List.sublist_cons_self _ _),λ x h=>by cases h⟩
theorem KB{w0 wv:World}{M0 M:Mem}{Rs:List HO}{b:Nat}{v:Value}{l:List Tk}{i d:Int}(m:A1)(hS:St w0 M0 wv M (FF b v i d::Rs))(hl:Sl M 9 l.length v (l.flatMap Tk.cells))(h0:0<=i)(h1:i<len l):
  Calls prog 63 [.pointer (some ⟨b,0,none⟩),str m].toArray wv (DT w0 M0 M Rs (λ _:Unit=>.bool (AG l i m)) (λ _=>True) (λ _=>[]) λ _=>[FF b v i d]):=by
 refine AU (Hr:=Rs) AP func63 U ntmps63 [(0,kn v 9 l Tk.cells)] [(0,AV b v i d)] [.bx 0 b 0,.v (str m)] U hS (fc 0 hl (λ _=>rfl) AA) (λ B hB=>?_) U
 refine BQ [0] (λ _:Unit=>EB (at' l i)) [] (λ _=>[(0,AV b v i d)]) U (A0 U) U U call41 U U (A0 U) U (λ w M hS hF=>EN hS (hF.get (k:=0) U).sl h0 h1) (λ _=>rfl) (λ _=>rfl) λ _ _=>?_
 refine L3 (EB (at' l i)) U (A0 U) U U (λ hb1=>?_) (λ hb1=>?_)
 ·refine BQ [0] (λ _:Unit=>EB (at' l i)) [] (λ _=>[(0,AV b v i d)]) U (A0 U) U U call41 U U (OK hb1 U) U (λ w M hS hF=>EN hS (hF.get (k:=0) U).sl h0 h1) (λ _=>rfl) (λ _=>rfl) λ _ _=>?_
  exact A9 hB rfl rfl (A0 rfl) U rfl (A0 rfl) λ w M' hX=>⟨(),M',rfl,trivial,hX.le,hX.st,λ x h=>by cases h⟩
 ·exact A9 hB rfl rfl (A0 rfl) U rfl (A0 rfl) λ w M' hX=>⟨(),M',rfl,trivial,hX.le,hX.st,λ x h=>by cases h⟩
abbrev xX(w0:World)(M0 M:Mem)(Rs:List HO)(ec p:Int):Ending->World->Prop:=λ e w'=> ∃M',e= .panicked [PD 82 ec p]/\St w0 M0 w' M' Rs/\M.le M'
theorem JF{w0 wv:World}{M0 M:Mem}{Rs:List HO}{b:Nat}{v:Value}{i d:Int}(t:Tk)(ec:Int)(hS:St w0 M0 wv M (FF b v i d::Rs)):
  Calls prog 42 [.pointer (some ⟨b,0,none⟩),fE t,i64 ec].toArray wv (xX w0 M0 M Rs ec t.pos):=by
 refine AU (Hr:=FF b v i d::Rs) AP func42 U ntmps42 [] [] [.v (.pointer (some ⟨b,0,none⟩)),EB t,I ec] U hS AA (λ B hB=>?_) U
 refine F0 4 U (A0 U) U U U (A0 U) λ b4=>?_
 refine CY (.v (.iface 82 (.agg #[i64 ec,i64 t.pos]))) U (A0 U) U U (λ w M hX=>PV.iface (v:=.agg #[i64 ec,i64 t.pos]) (AN (v:=.ag [I ec,I t.pos]) (E:=[]) U (A0 U)) underlying82 U) ?_
 exact xU U (A0 U) U U (A0 U) U λ a w M hs hX=>EW [] (hB.p ⟨M,rfl,hX.st.drop _ (List.sublist_append_right [_,_] _),hX.le⟩ a hs)
abbrev RO(w0:World)(M0 M:Mem)(Rs:List HO)(b:Nat)(v:Value)(r:PR Unit)(d:Int):Ending->World->Prop:=
 OM w0 M0 M Rs 82 r λ _ j=>DT w0 M0 M Rs (λ _:Unit=>.tuple #[]) (λ _=>True) (λ _=>[]) λ _=>[FF b v j d]
theorem RP{w0 wv:World}{M0 M:Mem}{Rs:List HO}{b:Nat}{v:Value}{l:List Tk}{i d:Int}(m:A1)(hS:St w0 M0 wv M (FF b v i d::Rs))(hl:Sl M 9 l.length v (l.flatMap Tk.cells))(h0:0<=i)(h1:i<len l)(hb:len l<=1099511627776):
  Calls prog 97 [.pointer (some ⟨b,0,none⟩),str m].toArray wv (RO w0 M0 M Rs b v (B6 l i m) d):=by
 refine AU (Hr:=Rs) AP func97 U ntmps97 [(0,kn v 9 l Tk.cells)] [(0,AV b v i d)] [.bx 0 b 0,.v (str m)] U hS (fc 0 hl (λ _=>rfl) AA) (λ B hB=>?_) U
 refine BQ [0] (λ _:Unit=>.v (.bool (AG l i m))) [] (λ _=>[(0,AV b v i d)]) U (A0 U) U U call63 U U (A0 U) U (λ w M hS hF=>KB m hS (hF.get (k:=0) U).sl h0 h1) (λ _=>rfl) (λ _=>rfl) λ _ _=>?_
 refine A7 U (A0 U) U (λ hb1=>?_) (λ hb1=>?_)
 ·have e:B6 l i m= .er 1 (at' l i).pos:=by unfold B6 D0;rw[if_neg (by simpa using hb1)]
  refine BQ [0] (λ _:Unit=>EB (at' l i)) [] (λ _=>[(0,AV b v i d)]) U (A0 U) U U call41 U U (A0 U) U (λ w M hS hF=>EN hS (hF.get (k:=0) U).sl h0 h1) (λ _=>rfl) (λ _=>rfl) λ _ _=>?_
  refine GM [0] U (A0 U) U U call42 U (A0 U) U (λ w M hS hF=>JF (at' l i) 1 hS) λ a w M hs hS hle=>EW _ (hB.p ?_ a hs)
  rw[e];exact⟨M,rfl,hS,hle⟩
 ·have e:B6 l i m= .ok () (i+1):=by unfold B6;rw[if_pos (by simpa using hb1)]
  refine TE hB U U (A0 U) (by simp only[zb]<;>omega) λ w M' hX=>?_
  rw[e];exact⟨(),M',rfl,trivial,hX.le,hX.st,λ x h=>by cases h⟩
theorem WD{w0 wv:World}{M0 M:Mem}{Rs:List HO}{b:Nat}{v:Value}{l:List Tk}{i d:Int}(m:A1){r:PR Unit}(h:B6 l i m=r)(hS:St w0 M0 wv M (FF b v i d::Rs))(hl:Sl M 9 l.length v (l.flatMap Tk.cells))(h0:0<=i)(h1:i<len l)(hb:len l<=1099511627776):
 Calls prog 97 [.pointer (some ⟨b,0,none⟩),str m].toArray wv (RO w0 M0 M Rs b v r d):=by subst h;exact RP m hS hl h0 h1 hb
theorem xY{w0 wv:World}{M0 M:Mem}{Rs:List HO}{b:Nat}{v:Value}{l:List Tk}{i d:Int}(m:A1)(hS:St w0 M0 wv M (FF b v i d::Rs))(hl:Sl M 9 l.length v (l.flatMap Tk.cells))(h0:0<=i)(h1:i<len l)(hb:len l<=1099511627776)(hd:0<=d/\d<=64):
  Calls prog 95 [.pointer (some ⟨b,0,none⟩),str m].toArray wv (RO w0 M0 M Rs b v (EA l d i m) (d+1)):=by
 refine AU (Hr:=Rs) AP func95 U ntmps95 [(0,kn v 9 l Tk.cells)] [(0,AV b v i d)] [.bx 0 b 0,.v (str m)] U hS (fc 0 hl (λ _=>rfl) AA) (λ B hB=>?_) U
 refine BQ [0] (λ _:Unit=>.v (.bool (AG l i m))) [] (λ _=>[(0,AV b v i d)]) U (A0 U) U U call63 U U (A0 U) U (λ w M hS hF=>KB m hS (hF.get (k:=0) U).sl h0 h1) (λ _=>rfl) (λ _=>rfl) λ _ _=>?_
 refine A7 U (A0 U) (by simp only[zb]<;>omega) (λ hb1=>?_) (λ hb1=>?_)
 ·have e:EA l d i m= .er 3 (at' l i).pos:=by unfold EA D0;rw[if_pos hb1]
  refine BQ [0] (λ _:Unit=>EB (at' l i)) [] (λ _=>[(0,AV b v i d)]) U (A0 U) U U call41 U U (A0 U) U (λ w M hS hF=>EN hS (hF.get (k:=0) U).sl h0 h1) (λ _=>rfl) (λ _=>rfl) λ _ _=>?_
  refine GM [0] U (A0 U) U U call42 U (A0 U) U (λ w M hS hF=>JF (at' l i) 3 hS) λ a w M hs hS hle=>EW _ (hB.p ?_ a hs)
  rw[e];exact⟨M,rfl,hS,hle⟩
 ·have e:EA l d i m=B6 l i m:=by unfold EA;rw[if_neg (by rw[hb1];decide)]
  cases hm:AG l i m with
  |false=>
   have e2:B6 l i m= .er 1 (at' l i).pos:=by unfold B6 D0;rw[if_neg (by rw[hm];decide)]
   refine GM [0] U (A0 U) U U call97 U (A0 U) U (λ w M hS hF=>WD m e2 hS (hF.get (k:=0) U).sl h0 h1 hb) λ a w M hs hS hle=>EW _ (hB.p ?_ a hs)
   rw[e,e2];exact⟨M,rfl,hS,hle⟩
  |true=>
   have e2:B6 l i m= .ok () (i+1):=by unfold B6;rw[if_pos hm]
   refine BQ [0] (λ _:Unit=>.tu []) [] (λ _=>[(0,AV b v (i+1) d)]) U (A0 U) U U call97 U U (A0 U) U (λ w M hS hF=>WD m e2 hS (hF.get (k:=0) U).sl h0 h1 hb) (λ _=>rfl) (λ _=>rfl) λ _ _=>?_
   refine TE hB U U (A0 U) (by simp only[zb]<;>omega) λ w M' hX=>?_
   rw[e,e2];exact⟨(),M',rfl,trivial,hX.le,hX.st,λ x h=>by cases h⟩
theorem xZ{w0 wv:World}{M0 M:Mem}{Rs:List HO}{b:Nat}{v:Value}{l:List Tk}{i d:Int}(m:A1)(hS:St w0 M0 wv M (FF b v i d::Rs))(hl:Sl M 9 l.length v (l.flatMap Tk.cells))(h0:0<=i)(h1:i<len l)(hb:len l<=1099511627776)(hd:0<=d/\d<=65):
  Calls prog 96 [.pointer (some ⟨b,0,none⟩),str m].toArray wv (RO w0 M0 M Rs b v (B6 l i m) (d-1)):=by
 refine AU (Hr:=Rs) AP func96 U ntmps96 [(0,kn v 9 l Tk.cells)] [(0,AV b v i d)] [.bx 0 b 0,.v (str m)] U hS (fc 0 hl (λ _=>rfl) AA) (λ B hB=>?_) U
 cases hm:AG l i m with
 |false=>
  have e2:B6 l i m= .er 1 (at' l i).pos:=by unfold B6 D0;rw[if_neg (by rw[hm];decide)]
  refine GM [0] U (A0 U) U U call97 U (A0 U) U (λ w M hS hF=>WD m e2 hS (hF.get (k:=0) U).sl h0 h1 hb) λ a w M hs hS hle=>EW _ (hB.p ?_ a hs)
  rw[e2];exact⟨M,rfl,hS,hle⟩
 |true=>
  have e2:B6 l i m= .ok () (i+1):=by unfold B6;rw[if_pos hm]
  refine BQ [0] (λ _:Unit=>.tu []) [] (λ _=>[(0,AV b v (i+1) d)]) U (A0 U) U U call97 U U (A0 U) U (λ w M hS hF=>WD m e2 hS (hF.get (k:=0) U).sl h0 h1 hb) (λ _=>rfl) (λ _=>rfl) λ _ _=>?_
  refine TE hB U U (A0 U) (by simp only[zb]<;>omega) λ w M' hX=>?_
  rw[e2];exact⟨(),M',rfl,trivial,hX.le,hX.st,λ x h=>by cases h⟩
end Go.Proofs.YtmjpjbmeamnfpaaGreatDoor
namespace Go.Eng
open Go.RowKit
theorem y5{P:Program}{N:Nat}{w0 w:World}{M0 M:Mem}{Hr:List HO}{T:TT}(hT:EH P T){f:FuncId}{fn:Func}{x:Code}{R:Ending->World->Prop}(hf:P.funcs[f]? =some fn)(hb:fn.body=some x)(hn:fn.ntmps=N)(hst:DM x=true)(ho: ∀w,¬R .outgrown w)
  (F:List (Nat×Kn)) (H:List (Nat×HX)) (vs:List XV) (hl:Nat.ble vs.length N=true) (hS:St w0 M0 w M (HD H++Hr)) (hF:BF M F)
  (h: ∀B,Ends P fn R B->XG ⟨P,N,w0,M0,M,Hr,T,hT,.W8 P none 1⟩ B [] (.code x) ⟨F,H,NA 0 vs⟩) {av:List Value} (ha:vs.map XV.d=av):Calls P f av.toArray w R:=by
 subst ha
 refine(callsIn_wide (n:=1)).1 (callsIn_of_wp_marks hf hb trivial ?_ U)
 rw[hn]
 have hs:=AJ.enter (vs.map XV.d) N (by rw[List.length_map];exact Nat.le_of_ble_eq_true hl)
 have hE:NF P fn R (bodyPostM Fence.wide 1 P fn R):=⟨λ _ _ _ h=>h⟩
 have:=h _ hE.ends _ w ⟨by rw[<-RC]at hs;exact hs,M,hS,hF,Mem.le.refl _⟩
 exact this (λ⟨a,w,q⟩=>ho w q) hst
theorem y7{P:Program}{w:World}{L:Env}{W:Bool}{l:Nat}{x:Operand}{xs:List Operand}{vs:List Value}(hf:A8 L W x (.func (.yield l) #[] #[]))(hx:EE L W xs vs){a:Act}{N:Nat}(hs:AJ a N L)(hW:W=true){d:Option Tmp}{tys:Array TypeId}{ty:TypeId}{ps:String}{af:Array Edge}{gd:Option (Nat×Bool)}:
  (execOp a.eval ⟨d,.call ⟨.value x,xs.toArray,tys⟩,ty,ps,af,gd⟩).run P w=(Instr.yield l vs.toArray).run P w:=by
 have e:xs.toArray.map a.eval=vs.toArray:=by rw[List.map_toArray,EE.map hs hW xs vs hx]
 simp only[execOp,resolve,e,hf a N hs hW,Deferred.ofValue,invoke,Sem.run_bind,Sem.run_pure,Result.andThen_ok]
 simp
structure AX where
 a:Option Addr
 n:Nat
 c:Nat
deriving Inhabited
def DN(h:AX):List Value:=[.slice h.a h.n h.c]
theorem GO(h:AX):(DN h).length=1:=rfl
theorem WE(h:AX): ∀u∈DN h,u.oneCell'=true:=by intro u hu;simp[DN]at hu;subst hu;rfl
abbrev AX.v (h:AX):Value:=.slice h.a h.n h.c
def D1{α:Type}(M:Mem)(sz:Nat)(f:α->List Value):List AX->List (List α)->Prop
 |[],[]=>True
 |h::hs,x::xs=>Sl M sz x.length h.v (x.flatMap f)/\D1 M sz f hs xs
 |_,_=>False
section
variable {α:Type} {M M':Mem} {sz:Nat} {f:α->List Value}
theorem D1.mono (hm:M.le M'): ∀ {hs:List AX} {xs:List (List α)},D1 M sz f hs xs->D1 M' sz f hs xs
 |[],[],_=>trivial
 |_::_,_::_,h=>⟨h.1.mono hm,D1.mono hm h.2⟩
 |[],_::_,h=>h.elim
 |_::_,[],h=>h.elim
theorem D1.snoc {h:AX}{x:List α}(hx:Sl M sz x.length h.v (x.flatMap f)): ∀ {hs:List AX} {xs:List (List α)},D1 M sz f hs xs->D1 M sz f (hs++[h]) (xs++[x])
 |[],[],_=>⟨hx,trivial⟩
 |_::_,_::_,h=>⟨h.1,D1.snoc hx h.2⟩
 |[],_::_,h=>h.elim
 |_::_,[],h=>h.elim
theorem D1.len: ∀ {hs:List AX} {xs:List (List α)},D1 M sz f hs xs->hs.length=xs.length
 |[],[],_=>rfl
 |_::_,_::_,h=>by simp[D1.len h.2]
 |[],_::_,h=>h.elim
 |_::_,[],h=>h.elim
theorem D1.get: ∀ {hs:List AX} {xs:List (List α)} (k:Nat),D1 M sz f hs xs->k<hs.length->Sl M sz (xs.getD k []).length (hs.getD k default).v ((xs.getD k []).flatMap f)
 |[],_,_,_,h=>absurd h (Nat.not_lt_zero _)
 |_::_,[],_,h,_=>h.elim
 |_::_,_::_,0,h,_=>h.1
 |_::_,_::_,k+1,h,hk=>by simpa using D1.get k h.2 (by simpa using hk)
end
theorem D1.at {α:Type}{M:Mem}{sz:Nat}{f:α->List Value}{hs:List AX}{xs:List (List α)}{k:Int}(h:D1 M sz f hs xs)(h0:0<=k)(h1:k<Eng.len hs):Sl M sz (at' xs k).length (at' hs k).v ((at' xs k).flatMap f):=
 by
 have:=D1.get k.toNat h (by unfold Eng.len at h1;omega)
 exact this
end Go.Eng
namespace Go.Proofs.YtmjpjbmeamnfpaaGreatDoor
open Go.Proofs.Tryz
open Go.Eng
abbrev aL(F:List (Nat×Kn)):Kn:=⟨.slice none 0 0,1,([]:List A1),AZ,λ M=>BF M F,λ _ _ hm h=>h.mono hm⟩
end Go.Proofs.YtmjpjbmeamnfpaaGreatDoor
namespace Go.Eng
open Go.RowKit
theorem St.y8 {w0 w:World}{M0 M:Mem}{Hs:List HO}(h:St w0 M0 w M Hs)(e:TypeId)(sz cap:Nat)(cur:Array Value)(hc:cur.size=cap*sz)(hm:cap<=maxLen):
  St w0 M0 (w.alloc (.cells cur e)) M (.priv e sz (.slice (some ⟨w.heap.size,0,none⟩) 0 cap) 0 []::Hs):=by
 have h1:=h.ext (Ext.alloc w (.cells cur e))
 refine⟨h1.low,h1.sat,h1.old,λ x hx=>?_,List.pairwise_cons.2 ⟨λ y hy b hb=>?_,h.apart⟩⟩
 ·rcases List.mem_cons.1 hx with rfl|hx
  ·refine⟨⟨by simp,.inr ⟨w.heap.size,cap,cur,rfl,h.size,heap_alloc_new _ _,Nat.zero_le _,hm,hc,by simp⟩⟩,λ b hb o=>?_⟩
   simp only[Value.ownBlock,Option.some.injEq]at hb;subst hb
   exact h.SF (Nat.le_refl _) o
  ·exact h1.ok x hx
 ·simp only[HO.EF,Value.ownBlock,Option.some.injEq]at hb;subst hb
  intro hy'
  have:=(HO.ok.lt (h.ok y hy) hy').2
  omega
end Go.Eng
namespace Go.Proofs.YtmjpjbmeamnfpaaGreatDoor
open Go.Proofs.Tryz
open Go.Eng Go.RowKit
end Go.Proofs.YtmjpjbmeamnfpaaGreatDoor
