/-
  Parts Xk Xl Xs Xt, put together and made short by wip/py/merge.py (mini.py).
-/
import Derived.Test.YtmjpjbmeamnfpaaGreatDoorZc10
import Derived.Test.YtmjpjbmeamnfpaaGreatDoorZc7
import Derived.Test.YtmjpjbmeamnfpaaGreatDoorZc8
import Derived.TacticsIn
import Derived.LoopIn
import Derived.RangeFuncCalls
import Derived.Test.YtmjpjbmeamnfpaaGreatDoorZc0
set_option linter.unusedVariables false
set_option linter.unusedSimpArgs false
namespace Go.Eng
open Go.RowKit
section
variable {c:Cx} {B:Exit->Act->World->Prop} {k k':List Fr} {m:Md} {s s':XS} {O:Prop} {E:List Ck} {all:Array Oper} {rest:List Oper} {d:Nat} {ty:TypeId} {ps:String} {af:Array Edge}
theorem FM(kk:Nat)(K:Kn)(h: ∀w M,DX c s.F s.H w M->K.ok M)(hn:XG c B k m ⟨(kk,K)::s.F,s.H,s.L⟩):XG c B k m s:=λ a w ⟨h1,M,h2⟩=>hn a w ⟨h1,M,h2.st,CA (h w M h2) h2.f,h2.le⟩
theorem NW(t kk:Nat){v:Value}{g:Gd}(hl:BL s.L t=some (g,.v v))(hn:XG c B k m ⟨s.F,s.H,(t,g,.sl kk v)::s.L⟩):XG c B k m s:=λ a w ⟨h1,M,h2⟩=>hn a w ⟨⟨h1.size,h1.CZ,λ t' g' v' ht=>by
 have ht':look ((t,g.d,v)::s.L.d) t'=some (g',v'):=ht
 by_cases he:t=t'
 ·subst he;rw[L5]at ht';cases ht';exact h1.val _ _ _ (HN hl)
 ·rw[I0 he]at ht';exact h1.val _ _ _ ht'⟩,M,h2⟩
theorem HS{o:Oper}(h:run c.T c.N k m s=⟨k',.ops all (o::rest),s',O,E⟩)(hE:AG E)(hO:O)(hn: ∀w M,DX c s'.F s'.H w M->RL c.P all (Exit.then (c.W.list all (post c B k') rest) (post c B k')) c.N [o] s'.L.d w):XG c B k m s:=
 CI h hE hO λ a w ⟨h1,M,h2⟩=>c.W.one (hn w M h2 a h1)
theorem J4{F:List (Nat×Kn)}{H:List (Nat×HX)}{L:XE}{L':Env}{l:List Oper}{w:World}{M:Mem}(h:XG c B k (.ops all l) ⟨F,H,L⟩)(hX:DX c F H w M)(hL:L.d=L'):RL c.P all (Exit.then (c.W.list all (post c B k) l) (post c B k)) c.N [] L' w:=
 λ a hs=>c.W.back (h a w ⟨by rw[hL];exact hs,M,hX⟩)
theorem CX{op:Op}{gd:Option (Nat×Bool)}{W:Gd}(v:XV)(h:run c.T c.N k m s=⟨k',.ops all (⟨some d,op,ty,ps,af,gd⟩::rest),s',O,E⟩)(hE:AG E)(hO:O)(hg:(JS all s'.L gd,Nat.blt d c.N)=(some W,true))
  (hp: ∀w M,DX c s'.F s'.H w M->PV c.P (· =w) s'.L.d W.d ⟨some d,op,ty,ps,af,gd⟩ v.d) (hn:XG c B k' (.ops all rest) ⟨s'.F,s'.H,(d,W,v)::s'.L⟩):XG c B k m s:=by
 simp only[Prod.mk.injEq]at hg
 exact HS h hE hO λ w M hX=>RL.v (MT hg.1) (hp w M hX) hg.2 (J4 hn hX U)
theorem CY(kk:Nat){t:TypeId}{z:Value}{cs:List XV}(h:run c.T c.N k m s=⟨k',.ops all (⟨some d,.alloc t,ty,ps,af,none⟩::rest),s',O,E⟩)(hE:AG E)(hO:O)(hz: ∀w,(zeroValue t).run c.P w= .ok z w)(hd:(Nat.blt d c.N,PZ z.cells.toList)=(true,some cs))
  (hn: ∀b,XG c B k' (.ops all rest) ⟨s'.F,(kk,.box b cs t)::s'.H,(d,.t,.bx kk b 0)::s'.L⟩):XG c B k m s:=by
 simp only[Prod.mk.injEq]at hd
 refine HS h hE hO λ w M hX=>RL.alloc hX.st hz hd.1 λ w' b hS=>J4 (hn b) ⟨?_,hX.f,hX.le⟩ U
 show St _ _ _ _ (.box b (cs.map XV.d0) t::(HD s'.H++c.Hr))
 rw[UZ _ _ hd.2];exact hS
theorem JU(kk:Nat){t:TypeId}{x:Operand}{v:XV}{cs:List XV}{E1 E2:List Ck}(h:run c.T c.N k m s=⟨k',.ops all (⟨some d,.box t x,ty,ps,af,none⟩::rest),s',O,E⟩)(hE:AG E)(hO:O)(hx:C9 s'.L .t x=some (v,E1))(hd:(Nat.blt d c.N,cellsOf v,SB s'.F s'.H cs)=(true,some cs,some E2))(hE1:AG (E1++E2))
  (hn: ∀b,XG c B k' (.ops all rest) ⟨s'.F,(kk,.box b cs t)::s'.H,(d,.t,.bx kk b 0)::s'.L⟩):XG c B k m s:=by
 simp only[Prod.mk.injEq]at hd
 refine HS h hE hO λ w M hX=>RL.box hX.st (AT hx hE1.app.1) hd.1 λ w' b hS=>J4 (hn b) ⟨?_,hX.f,hX.le⟩ U
 have h1c:=Q6 hX.f hX.st hd.2.2 hE1.app.2
 have hcells:v.d.cells.toList=cs.map XV.d0:=by
  rcases gT hd.2.1 with h7|⟨u,rfl,rfl,h8,h9⟩
  ·exact h7
  ·have e:v.d=v.d0:=by cases v<;>first|rfl|(exact absurd rfl (h8 _))|(exact absurd rfl (h9 _))
   rw[e,V4 (h1c _ (by simp))];rfl
 show St _ _ _ _ (.box b (cs.map XV.d0) t::(HD s'.H++c.Hr))
 rw[<-hcells];exact hS
theorem ZB{α:Type}[Inhabited α](kk t:Nat)(e:TypeId)(sz:Nat)(f:α->List Value)(hf: ∀x,(f x).length=sz)(hl:BL s.L t=some (.t,.v (.slice none 0 0)))
  (hn:XG c B k m ⟨(kk,kn (.slice none 0 0) sz ([]:List α) f)::s.F,(kk,.ho (.own e sz (.slice none 0 0) ([]:List α).length (([]:List α).flatMap f)))::s.H,(t,.t,.sl kk (.slice none 0 0))::s.L⟩):XG c B k m s:=by
 intro a w ⟨h1,M,h2⟩
 refine hn a w ⟨⟨h1.size,h1.CZ,λ t' g v ht=>?_⟩,M,h2.st.K8 e sz,CA ⟨?_,hf,trivial⟩ h2.f,h2.le⟩
 ·have hl':=HN hl
  by_cases he:t=t'
  ·subst he
   have ht':look ((t,true,Value.slice none 0 0)::s.L.d) t=some (g,v):=ht
   rw[L5]at ht';cases ht'
   exact h1.val _ _ _ hl'
  ·have ht':look ((t,true,Value.slice none 0 0)::s.L.d) t'=some (g,v):=ht
   rw[I0 he]at ht'
   exact h1.val _ _ _ ht'
 ·exact Sl.nil M sz
def Q9(L:XE):List (Nat×Operand)->Option (List (Nat×XV)×List Ck)
 |[]=>some ([],[])
 |(i,x)::xs=>match C9 L .t x with
  |some (v,E)=>match Q9 L xs with
   |some (vs,E')=>some ((i,v)::vs,E++E')
   |none=>none
  |none=>none
theorem ZC{L:XE}: ∀ {xs:List (Nat×Operand)} {vs:List (Nat×XV)} {E:List Ck},Q9 L xs=some (vs,E)->AG E->FQ L.d true xs (vs.map λ x=>(x.1,x.2.d))
 |[],vs,E,h,_=>by simp only[Q9,Option.some.injEq,Prod.mk.injEq]at h;obtain⟨rfl,rfl⟩:=h;exact .nil
 |(i,x)::xs,vs,E,h,hE=>by
  unfold Q9 at h
  split at h
  ·rename_i v E1 h1
   split at h
   ·rename_i vs' E2 h2
    simp only[Option.some.injEq,Prod.mk.injEq]at h;obtain⟨rfl,rfl⟩:=h
    exact .cons (AT h1 hE.app.1) (ZC h2 hE.app.2)
   ·cases h
  ·cases h
theorem D2{α:Type}[Inhabited α](kk:Nat)(l:List α)(f:α->List Value)(sz:Nat)(e:TypeId){t:TypeId}{n:Nat}{xs:List (Nat×Operand)}{vs:List (Nat×XV)}{E1:List Ck}(hf: ∀x,(f x).length=sz)(h:run c.T c.N k m s=⟨k',.ops all (⟨some d,.buildSlice t n ⟨xs⟩,ty,ps,af,none⟩::rest),s',O,E⟩)(hE:AG E)(hO:O)
  (hx:Q9 s'.L xs=some (vs,E1)) (hE1:AG E1) (hr: ∀w,(Instr.buildSlice t n (vs.map λ x=>(x.1,x.2.d)).toArray).run c.P w= .ok (.slice (some ⟨w.heap.size,0,none⟩) n n) (w.alloc (.cells (l.flatMap f).toArray e))) (hd:(Nat.blt d c.N,Nat.beq l.length n,Nat.ble n 9223372036854775807)=(true,true,true))
  (hn: ∀v,XG c B k' (.ops all rest) ⟨(kk,kn v sz l f)::s'.F,(kk,.ho (.own e sz v l.length (l.flatMap f)))::s'.H,(d,.t,.sl kk v)::s'.L⟩):XG c B k m s:=by
 simp only[Prod.mk.injEq]at hd
 have hln:=Nat.eq_of_beq_eq_true hd.2.1
 subst hln
 refine HS h hE hO λ w M hX=>?_
 have e1:(⟨xs⟩:Array (Nat×Operand))=xs.toArray:=rfl
 rw[e1]
 refine RL.buildSlice (cs:=l.flatMap f) hX.st (ZC hx hE1) (E5 f sz hf l) hd.2.2 hr hd.1 λ v w' M' hS hle=>J4 (hn v) ⟨hS,CA ⟨hS.sl (i:=0) U,hf,trivial⟩ λ x hx=>(hX.f x hx).mono hle,hX.le.trans hle⟩ U
theorem KN(by':Nat){α:Type}[inh:Inhabited α]{l mm:List α}{f:α->List Value}{t e:TypeId}{x y:Operand}{i:TypeInfo}{z v vx:Value}{kk kx sz:Nat}{E1:List Ck}{g1 g2:Mem->Prop}{hg1: ∀M M',M.le M'->g1 M->g1 M'}{hg2: ∀M M',M.le M'->g2 M->g2 M'}
  (h:run c.T c.N k m s=⟨k',.ops all (⟨some d,.call ⟨.builtin .append,#[x,y],#[t,t]⟩,ty,ps,af,none⟩::rest),s',O,E⟩) (hE:AG E) (hO:O) (hx:KL s'.L .t x y=some (.sl kk v,.sl kx vx,E1)) (hE1:AG E1)
  (hk:(KK s'.F kk,KK s'.F kx,J3 s'.H kk)=(some (@Kn.mk α inh v sz l f g1 hg1),some (@Kn.mk α inh vx sz mm f g2 hg2),some (.ho (.own e sz v l.length (l.flatMap f)))))
  (ht:c.P.underlying t=some (.slice e)) (hi:c.P.info? e=some i) (hz:i.zero=some z) (hs:(i.size,z.cells.size,i.bytes,Nat.blt 0 by',Nat.blt d c.N)=(sz,sz,by',true,true)) (h1: ∀x,∀u∈f x,u.oneCell'=true) (hb:(len l+len mm)*by'<=140737488355328)
  (hn: ∀v',XG c B k' (.ops all rest) ⟨(kk,kn v' sz (l++mm) f)::s'.F,ES s'.H kk (.ho (.own e sz v' (l++mm).length ((l++mm).flatMap f))),(d,.t,.sl kk v')::s'.L⟩):XG c B k m s:=by
 simp only[Prod.mk.injEq]at hk hs
 obtain⟨hk1,hk2,hk3⟩:=hk
 refine HS h hE hO λ w M hX=>?_
 obtain⟨j,hj,hset'⟩:=MS (Hr:=c.Hr) hk3
 obtain⟨hx1,hx2⟩:=LK hx hE1
 refine RL.MH (f:=f) (l:=l) (m:=mm) (by':=by') hX.st hj hx1 hx2 (hX.f.get hk2).sl ht hi hz hs.1 hs.2.1 h1 hs.2.2.1 hs.2.2.2.1 hb hs.2.2.2.2 (Hs':=λ v'=>HD (ES s'.H kk (.ho (.own e sz v' (l++mm).length ((l++mm).flatMap f))))++c.Hr) (λ v'=>(hset' (.ho (.own e sz v' (l++mm).length ((l++mm).flatMap f)))).symm) λ v' w' M' hS hle=>?_
 refine J4 (hn v') ⟨hS,CA ⟨?_,(hX.f.get hk1).sz,trivial⟩ λ x hx=>(hX.f x hx).mono hle,hX.le.trans hle⟩ U
 have h5:(HD (ES s'.H kk (.ho (.own e sz v' (l++mm).length ((l++mm).flatMap f))))++c.Hr)[j]? =some (.own e sz v' (l++mm).length ((l++mm).flatMap f)):=by
  rw[hset'];rw[List.getElem?_set_self (List.getElem?_eq_some_iff.1 hj).1];rfl
 exact hS.sl h5
theorem ZD{α:Type}[inh:Inhabited α](kk:Nat)(a b:Int){l:List α}{f:α->List Value}{t e:TypeId}{x:Operand}{lo hi:Option Operand}{v:Value}{kx sz:Nat}{E1:List Ck}{gd:Option (Nat×Bool)}{g1:Mem->Prop}{hg1: ∀M M',M.le M'->g1 M->g1 M'}
  (h:run c.T c.N k m s=⟨k',.ops all (⟨some d,.slice t x lo hi none,ty,ps,af,none⟩::rest),s',O,E⟩) (hE:AG E) (hO:O) (hx:C9 s'.L .t x=some (.sl kx v,E1)) (hE1:AG E1) (hk:KK s'.F kx=some (@Kn.mk α inh v sz l f g1 hg1))
  (hlo:match lo with|some y=> ∃kd,∃E,C9 s'.L .t y=some (.v (.int kd a),E)/\AG E|none=>a=0) (hhi:match hi with|some y=> ∃kd,∃E,C9 s'.L .t y=some (.v (.int kd b),E)/\AG E|none=>b=len l)
  (ht:c.P.underlying t=some (.slice e)) (hs: ∀w,(sizeOf e).run c.P w= .ok sz w) (hr:0<=a/\a<=b/\b<=len l) (hd:Nat.blt d c.N=true) (hlh:(lo.isSome||hi.isSome)=true)
  (hn: ∀v',XG c B k' (.ops all rest) ⟨(kk,kn v' sz (Eng.sub l a b) f)::s'.F,s'.H,(d,.t,.sl kk v')::s'.L⟩):XG c B k m s:=by
 refine HS h hE hO λ w M hX=>?_
 have hK:=hX.f.get hk
 have hK1:Sl M sz l.length v (l.flatMap f):=hK.sl
 have hx':=AT hx hE1
 cases lo with
 |some y=>
  obtain⟨kd,E2,h2,hE2⟩:=hlo
  cases hi with
  |some z=>
   obtain⟨kd',E3,h3,hE3⟩:=hhi
   obtain⟨v',h4,h5⟩:=uD (P:=c.P) hK1 hK.sz ht hs a b hr
   exact RL.v .none (.uG hx' (AT h2 hE2) (AT h3 hE3) h5) hd (J4 (hn v') ⟨hX.st,CA ⟨h4,hK.sz,trivial⟩ hX.f,hX.le⟩ U)
  |none=>
   have hb:b=len l:=hhi
   subst hb
   obtain⟨v',h4,h5⟩:=uF (P:=c.P) hK1 hK.sz ht hs a (len l) hr
   exact RL.v .none (.uI hx' (AT h2 hE2) h5) hd (J4 (hn v') ⟨hX.st,CA ⟨h4,hK.sz,trivial⟩ hX.f,hX.le⟩ U)
 |none=>
  have ha:a=0:=hlo
  subst ha
  cases hi with
  |some z=>
   obtain⟨kd',E3,h3,hE3⟩:=hhi
   obtain⟨v',h4,h5⟩:=uE (P:=c.P) hK1 hK.sz ht hs 0 b hr
   exact RL.v .none (.uH hx' (AT h3 hE3) h5) hd (J4 (hn v') ⟨hX.st,CA ⟨h4,hK.sz,trivial⟩ hX.f,hX.le⟩ U)
  |none=>cases hlh
theorem SF{α:Type}[inh:Inhabited α](kk:Nat)(l:List α)(f:α->List Value)(sz:Nat)(e:TypeId){t:TypeId}{n:Nat}{xs:List (Nat×Operand)}{vs:List (Nat×XV)}{E1:List Ck}(hf: ∀x,(f x).length=sz)(h:run c.T c.N k m s=⟨k',.ops all (⟨some d,.buildSlice t n ⟨xs⟩,ty,ps,af,none⟩::rest),s',O,E⟩)(hE:AG E)(hO:O)
  (hx:Q9 s'.L xs=some (vs,E1)) (hE1:AG E1) (hr: ∀w,(Instr.buildSlice t n (vs.map λ x=>(x.1,x.2.d)).toArray).run c.P w= .ok (.slice (some ⟨w.heap.size,0,none⟩) n n) (w.alloc (.cells (l.flatMap f).toArray e))) (hd:(Nat.blt d c.N,Nat.beq l.length n,Nat.ble n 9223372036854775807)=(true,true,true))
  (hn: ∀v,XG c B k' (.ops all rest) ⟨s'.F,(kk,.pv e (@kn α inh v sz l f) hf)::s'.H,(d,.t,.sl kk v)::s'.L⟩):XG c B k m s:=by
 simp only[Prod.mk.injEq]at hd
 have hln:=Nat.eq_of_beq_eq_true hd.2.1
 subst hln
 refine HS h hE hO λ w M hX=>?_
 have e1:(⟨xs⟩:Array (Nat×Operand))=xs.toArray:=rfl
 rw[e1]
 exact RL.tF (cs:=l.flatMap f) hX.st (ZC hx hE1) (E5 f sz hf l) hd.2.2 hr hd.1 λ v w' hS=>J4 (hn v) ⟨hS,hX.f,hX.le⟩ U
theorem SG(by':Nat){α:Type}[inh:Inhabited α]{l mm:List α}{f:α->List Value}{t e:TypeId}{x y:Operand}{i:TypeInfo}{z v vx:Value}{kk kx sz:Nat}{E1:List Ck}{hf: ∀x,(f x).length=sz}{g2:Mem->Prop}{hg2: ∀M M',M.le M'->g2 M->g2 M'}
  (h:run c.T c.N k m s=⟨k',.ops all (⟨some d,.call ⟨.builtin .append,#[x,y],#[t,t]⟩,ty,ps,af,none⟩::rest),s',O,E⟩) (hE:AG E) (hO:O) (hx:KL s'.L .t x y=some (.sl kk v,.sl kx vx,E1)) (hE1:AG E1)
  (hk:(KK s'.F kx,J3 s'.H kk)=(some (@Kn.mk α inh vx sz mm f g2 hg2),some (.pv e (@kn α inh v sz l f) hf)))
  (ht:c.P.underlying t=some (.slice e)) (hi:c.P.info? e=some i) (hz:i.zero=some z) (hs:(i.size,z.cells.size,i.bytes,Nat.blt 0 by',Nat.blt d c.N)=(sz,sz,by',true,true)) (h1: ∀x,∀u∈f x,u.oneCell'=true) (hb:(len l+len mm)*by'<=140737488355328)
  (hn: ∀v',XG c B k' (.ops all rest) ⟨s'.F,ES s'.H kk (.pv e (@kn α inh v' sz (l++mm) f) hf),(d,.t,.sl kk v')::s'.L⟩):XG c B k m s:=by
 simp only[Prod.mk.injEq]at hs hk
 refine HS h hE hO λ w M hX=>?_
 obtain⟨j,hj,hset'⟩:=MS (Hr:=c.Hr) hk.2
 obtain⟨hx1,hx2⟩:=LK hx hE1
 exact RL.tG (f:=f) (l:=l) (m:=mm) (by':=by') hX.st hj hx1 hx2 (hX.f.get hk.1).sl ht hi hz hs.1 hs.2.1 h1 hs.2.2.1 hs.2.2.2.1 hb hs.2.2.2.2 (Hs':=λ v'=>HD (ES s'.H kk (.pv e (@kn α inh v' sz (l++mm) f) hf))++c.Hr) (λ v'=>(hset' (.pv e (@kn α inh v' sz (l++mm) f) hf)).symm) λ v' w' hS=>J4 (hn v') ⟨hS,hX.f,hX.le⟩ U
theorem EW{α:Type}[inh:Inhabited α](kk:Nat){e:TypeId}{v:Value}{sz:Nat}{l:List α}{f:α->List Value}{hl: ∀x,(f x).length=sz}{H':List (Nat×HX)}(hk:LO s.H kk=some (.pv e (@kn α inh v sz l f) hl,H'))(hn:XG c B k m ⟨(kk,@kn α inh v sz l f)::s.F,H',s.L⟩):XG c B k m s:=by
 intro a w ⟨h1,M,h2⟩
 have hS:=h2.st.perm (Hs':=HX.d (.pv e (@kn α inh v sz l f) hl)::(HD H'++c.Hr)) (by have:=(VB hk).append_right c.Hr;exact this)
 have hi:(HX.d (.pv e (@kn α inh v sz l f) hl)::(HD H'++c.Hr))[0]? =some (.priv e sz v l.length (l.flatMap f)):=rfl
 obtain⟨M',hS',hle⟩:=hS.show hi
 refine hn a w ⟨h1,M',hS'.erase 0 U,CA ⟨hS'.sl (i:=0) U,hl,trivial⟩ λ x hx=>(h2.f x hx).mono hle,h2.le.trans hle⟩
theorem ZE{α:Type}[inh:Inhabited α](y':α){l:List α}{f:α->List Value}{t e:TypeId}{x y:Operand}{v:Value}{kk sz j n:Nat}{i:Int}{E1:List Ck}{u:XV}{hf: ∀x,(f x).length=sz}
  (h:run c.T c.N k m s=⟨k',.ops all (⟨none,.store t x y,ty,ps,af,none⟩::rest),s',O,E⟩) (hE:AG E) (hO:O) (hx:KL s'.L .t x y=some (.el kk v sz i j,u,E1)) (hE1:AG E1) (hk:J3 s'.H kk=some (.pv e (@kn α inh v sz l f) hf))
  (ht: ∀w,(sizeOf t).run c.P w= .ok n w) (hu:u.d.cells.toList.length=n) (hc:(Nat.blt 0 n,Nat.ble (j+n) sz,u.d.cells.toList.all (·.oneCell'))=(true,true,true)) (hy:G0 (f (A2 l i)) j u.d.cells.toList=f y') (hr:0<=i/\i<len l)
  (hn: ∀l',l'=l.set i.toNat y'->XG c B k' (.ops all rest) ⟨s'.F,ES s'.H kk (.pv e (@kn α inh v sz l' f) hf),s'.L⟩):XG c B k m s:=by
 simp only[Prod.mk.injEq]at hc
 refine HS h hE hO λ w M hX=>?_
 obtain⟨q,hq,hset'⟩:=MS (Hr:=c.Hr) hk
 obtain⟨hx1,hx2⟩:=LK hx hE1
 obtain⟨hlt,_⟩:=FG l hr.1 hr.2
 have hjn:=Nat.le_of_ble_eq_true hc.2.1
 have hfit:i.toNat*sz+j+n<=(l.flatMap f).length:=by
  rw[E5 f sz hf]
  have:=Nat.mul_le_mul_right sz (show i.toNat+1<=l.length from hlt)
  rw[Nat.add_mul]at this;omega
 refine RL.tH (P:=c.P) (o:=i.toNat*sz+j) (xs':=(l.set i.toNat y').flatMap f) (Hs':=HD (ES s'.H kk (.pv e (@kn α inh v sz (l.set i.toNat y') f) hf))++c.Hr) hX.st hq (by have:=hx1;simp only[XV.d,XV.d1,XV.d0,Nat.add_assoc]at this ⊢;exact this) hx2 ht hu hc.1 hfit hc.2.2 (tI hf l i.toNat y' j _ hlt hy (by rw[hu];exact hjn)) ?_ λ w' hS=>J4 (hn _ U) ⟨hS,hX.f,hX.le⟩ U
 rw[hset']
 show(HD s'.H++c.Hr).set q (.priv e sz v l.length ((l.set i.toNat y').flatMap f))=(HD s'.H++c.Hr).set q (.priv e sz v (l.set i.toNat y').length ((l.set i.toNat y').flatMap f))
 rw[List.length_set]
def SH(J:XS->Prop):List Fr->Nat->Option (List Fr×Code×List Fr)
 |[],_=>none
 |x::k,0=>match x with
  | .seq y=>some (.loop J::k,y,k)
  |_=>none
 |x::k,n+1=>match SH J k n with
  |some (a,y,b)=>some (x::a,y,b)
  |none=>none
theorem gY{J:XS->Prop}: ∀ {k:List Fr} {n:Nat} {a b:List Fr} {y:Code},SH J k n=some (a,y,b)-> ∃p,k=p++ .seq y::b/\a=p++ .loop J::b
 |[],_,_,_,_,h=>by cases h
 |x::k,0,a,b,y',h=>by
  simp only[SH]at h
  split at h
  ·simp only[Option.some.injEq,Prod.mk.injEq]at h;obtain⟨rfl,rfl,rfl⟩:=h;exact⟨[],rfl,rfl⟩
  ·cases h
 |x::k,n+1,a,b,y',h=>by
  simp only[SH]at h
  split at h
  ·rename_i a2 y2 b2 h2
   simp only[Option.some.injEq,Prod.mk.injEq]at h;obtain⟨rfl,rfl,rfl⟩:=h
   obtain⟨p,h3,h4⟩:=gY h2
   exact⟨x::p,by rw[h3];rfl,by rw[h4];rfl⟩
  ·cases h
theorem SI{n n':Act->World->Prop}{Q Q':Exit->Act->World->Prop}(hn: ∀a w,n a w->n' a w)(hq: ∀e a w,Q e a w->Q' e a w)(e:Exit)(a:Act)(w:World)(h:Exit.then n Q e a w):Exit.then n' Q' e a w:=by
 cases e<;>first|exact hn _ _ h|exact hq _ _ _ h
theorem MY{K K':List Fr}(h: ∀e a w,post c B K e a w->post c B K' e a w): ∀(p:List Fr) (e:Exit) (a:Act) (w:World),post c B (p++K) e a w->post c B (p++K') e a w
 |[],e,a,w,q=>h e a w q
 | .seq y::p,e,a,w,q=>SI (λ _ _ h1=>c.W.mono h1 (MY h p)) (MY h p) e a w q
 | .block id::p,e,a,w,q=>by
  cases e with
  |exit id'=>
   show if id'=id then _ else _
   have q':if id'=id then _ else _:=q
   split<;>rename_i hid
   ·rw[if_pos hid]at q';exact MY h p _ a w q'
   ·rw[if_neg hid]at q';exact MY h p _ a w q'
  |_=>exact MY h p _ a w q
 | .scope::p,e,a,w,q=>by cases e<;>first|exact q.elim|exact MY h p _ a w q
 | .loop J::p,e,a,w,q=>SI (λ _ _ h1=>h1) (MY h p) e a w q
theorem G8(n:Nat)(J:XS->Prop){b:Bool}{x y z:Code}{k2 q:List Fr}(h:run c.T c.N k m s=⟨k',.br b x y,s',O,E⟩)(hE:AG E)(hO:O)(hk:SH J k' n=some (k2,z,q))
  (ht:b=true->XG c B k2 (.code x) s') (hf:b=false->XG c B k2 (.code y) s') (h2: ∀s',J s'->XG c B q (.code z) s'):XG c B k m s:=by
 obtain⟨p,rfl,rfl⟩:=gY hk
 have hm: ∀e a w,post c B (.loop J::q) e a w->post c B (.seq z::q) e a w:=λ e a w h=>SI (λ a w ⟨s',hJ,hs⟩=>h2 s' hJ a w hs) (λ _ _ _ h=>h) e a w h
 refine AE h hE hO (λ hb a w hs=>?_) (λ hb a w hs=>?_)
 ·exact c.W.mono (ht hb a w hs) (MY hm p)
 ·exact c.W.mono (hf hb a w hs) (MY hm p)
theorem BO{J:XS->Prop}(s2:XS)(h:run c.T c.N k m s=⟨.loop J::k',.next,s',O,E⟩)(hE:AG E)(hO:O)(h0:(⟨MV s2.F s'.F,MW s2.H s'.H,HR (keys s2.L) s'.L⟩:XS)=s2)(hJ:J s2):XG c B k m s:=
 CI h hE hO λ a w hs=>⟨s2,hJ,hs.sub (XS.SE h0)⟩
end
end Go.Eng
namespace Go.Eng
open Go.RowKit
def QA{γ:Type}(w:World)(M:Mem)(u:γ->Value)(pu:γ->Prop)(Fg:γ->List (Nat×Kn)):Ending->World->Prop:=
 λ e w'=> ∃g M',e= .returned (u g)/\pu g/\Grow w M w' M'/\BJ M' (Fg g)
def DQ{γ:Type}(w0:World)(M0 M:Mem)(Rs:List HO)(u:γ->Value)(pu:γ->Prop)(Fg:γ->List (Nat×Kn))(Hg:γ->List HO):Ending->World->Prop:=
 λ e w'=> ∃g M',e= .returned (u g)/\pu g/\M.le M'/\St w0 M0 w' M' (Hg g++Rs)/\BJ M' (Fg g)
def SJ:List Nat->List (Nat×Kn)->List (Nat×Kn)
 |k::ks,(_,x)::F=>(k,x)::SJ ks F
 |_,_=>[]
theorem VD{M:Mem}: ∀ {ks:List Nat} {F:List (Nat×Kn)},BJ M F->BJ M (SJ ks F)
 |[],_,_=>λ x hx=>by cases hx
 |_::_,[],_=>λ x hx=>by cases hx
 |k::ks,(i,x)::F,h=>λ y hy=>by
  rcases List.mem_cons.1 hy with rfl|hy
  ·exact h (i,x) (.head _)
  ·exact VD (λ z hz=>h z (.tail _ hz)) y hy
theorem BJ.app {M:Mem}{F G:List (Nat×Kn)}(h:BJ M F)(k:BJ M G):BJ M (F++G):=λ x hx=>by
 rcases List.mem_append.1 hx with hx|hx
 ·exact h x hx
 ·exact k x hx
theorem BJ.mono {M M':Mem}{F:List (Nat×Kn)}(h:BJ M F)(hm:M.le M'):BJ M' F:=λ x hx=>(h x hx).mono hm
def LP:List Nat->List (Nat×HX)->Option (List (Nat×HX)×List (Nat×HX))
 |[],H=>some ([],H)
 |k::ks,H=>match LO H k with
  |some (x,H')=>match LP ks H' with
   |some (A,R)=>some ((k,x)::A,R)
   |none=>none
  |none=>none
theorem NX: ∀ {ks:List Nat} {H A R:List (Nat×HX)},LP ks H=some (A,R)->(HD A++HD R).Perm (HD H)
 |[],H,A,R,h=>by simp only[LP,Option.some.injEq,Prod.mk.injEq]at h;obtain⟨rfl,rfl⟩:=h;exact .refl _
 |k::ks,H,A,R,h=>by
  unfold LP at h
  split at h
  ·rename_i x H' h1
   split at h
   ·rename_i A' R' h2
    simp only[Option.some.injEq,Prod.mk.injEq]at h;obtain⟨rfl,rfl⟩:=h
    exact((NX h2).cons x.d).trans (VB h1)
   ·cases h
  ·cases h
def gZ(dd:Option Tmp)(v:XV)(L:XE):XE:=match dd with
 |some d=>(d,.t,v)::L
 |none=>L
def uJ(dd:Option Tmp)(N:Nat):Bool:=match dd with
 |some d=>Nat.blt d N
 |none=>true
section
variable {c:Cx} {B:Exit->Act->World->Prop} {k k':List Fr} {m:Md} {s s':XS} {O:Prop} {E:List Ck} {all:Array Oper} {rest:List Oper} {d:Nat} {ty:TypeId} {ps:String} {af:Array Edge}
theorem DX.sl {F:List (Nat×Kn)}{H:List (Nat×HX)}{w:World}{M:Mem}(h:DX c F H w M)(k:Nat){α:Type}{inh:Inhabited α}{v:Value}{sz:Nat}{l:List α}{f:α->List Value}{g:Mem->Prop}{hg: ∀M M',M.le M'->g M->g M'}(hk:KK F k=some (@Kn.mk α inh v sz l f g hg)):Sl M sz l.length v (l.flatMap f):=(h.f.get hk).sl
def callee(L:XE):Operand->Option (FuncId×List Value×List Value×List Ck)
 | .func f=>some (f,[],[],[])
 |x=>match C9 L .t x with
  |some (.v (.func (.func f) ⟨a⟩ ⟨b⟩),E)=>some (f,a,b,E)
  |_=>none
theorem ZF{P:Program}{ops:Array Oper}{Q:Exit->Act->World->Prop}{N:Nat}{L:XE}{w:World}{xf:Operand}{f:FuncId}{a b:List Value}{E1:List Ck}{xs:List Operand}{vs:List Value}{tys:Array TypeId}{R:Ending->World->Prop}{dd:Option Tmp}
  (ct:CT P f) (hf:callee L xf=some (f,a,b,E1)) (hE1:AG E1) (hx:EH L.d true xs vs) (hc:Calls P f (a++vs++b).toArray w R)
  (hr: ∀v w',R (.returned v) w'-> ∀ac,AK ac N L.d->wpList P ops Q rest (ac.put dd v) w') (hp: ∀ch w',R (.panicked ch) w'-> ∀ac,AK ac N L.d->Q (.panic ch) ac w') (ho: ∀w',¬R .outgrown w'):
  RL P ops Q N (⟨dd,.call ⟨.value xf,⟨xs⟩,tys⟩,ty,ps,af,none⟩::rest) L.d w:=by
 intro ac hs
 refine wpList_plain U λ K hK=>?_
 have key:(execOp ac.eval ⟨dd,.call ⟨.value xf,⟨xs⟩,tys⟩,ty,ps,af,none⟩).run P w= .ok (.enter f (a++vs++b).toArray) w:=by
  have e1:(⟨xs⟩:Array Operand)=xs.toArray:=rfl
  rw[e1]
  cases xf with
  |func f'=>
   simp only[callee,Option.some.injEq,Prod.mk.injEq]at hf
   obtain⟨rfl,rfl,rfl,rfl⟩:=hf
   simpa using NJ ct hx hs U
  |tmp t=>
   simp only[callee]at hf
   split at hf
   ·rename_i f' a' b' E' h1
    simp only[Option.some.injEq,Prod.mk.injEq]at hf
    obtain⟨rfl,rfl,rfl,rfl⟩:=hf
    exact XM (fs:=a') (cs:=b') ct (AT h1 hE1) hx hs U
   ·cases hf
  |const v=>
   simp only[callee]at hf
   split at hf
   ·rename_i f' a' b' E' h1
    simp only[Option.some.injEq,Prod.mk.injEq]at hf
    obtain⟨rfl,rfl,rfl,rfl⟩:=hf
    exact XM (fs:=a') (cs:=b') ct (AT h1 hE1) hx hs U
   ·cases hf
  |global g=>
   simp only[callee]at hf
   split at hf
   ·rename_i f' a' b' E' h1
    simp only[Option.some.injEq,Prod.mk.injEq]at hf
    obtain⟨rfl,rfl,rfl,rfl⟩:=hf
    exact XM (fs:=a') (cs:=b') ct (AT h1 hE1) hx hs U
   ·cases hf
 simp only[Oper.wp,key,Oper.upon_enter]
 refine hc.mono λ e w' he=>?_
 cases e with
 |returned v=>exact hK _ _ (hr v w' he ac hs)
 |panicked ch=>exact hp ch w' he ac hs
 |outgrown=>exact absurd he (ho w')
theorem SK{N:Nat}{L:XE}{a:Act}(hs:AK a N L.d){d:Nat}(hd:Nat.blt d N=true)(v:XV):AK (a.put (some d) v.d) N (XE.d ((d,.t,v)::L)):=hs.put hd true v.d
theorem J5{γ:Type}(ux:γ->XV)(ks:List Nat){u:γ->Value}{pu:γ->Prop}{Fg:γ->List (Nat×Kn)}{xf:Operand}{f:FuncId}{fa fb:List Value}{E1 E2:List Ck}{xs:List Operand}{tys:Array TypeId}{vs:List XV}
  (h:run c.T c.N k m s=⟨k',.ops all (⟨some d,.call ⟨.value xf,⟨xs⟩,tys⟩,ty,ps,af,none⟩::rest),s',O,E⟩) (hE:AG E) (hO:O) (hf:callee s'.L xf=some (f,fa,fb,E1)) (ct:CT c.P f) (hd:Nat.blt d c.N=true) (hx:JT s'.L .t xs=some (vs,E2)) (hE1:AG (E1++E2))
  (hc: ∀w M,DX c s'.F s'.H w M->Calls c.P f (fa++vs.map XV.d++fb).toArray w (QA w M u pu Fg)) (hu: ∀g,(ux g).d=u g)
  (hn: ∀g,pu g->XG c B k' (.ops all rest) ⟨SJ ks (Fg g)++s'.F,s'.H,(d,.t,ux g)::s'.L⟩):XG c B k m s:=by
 refine HS h hE hO λ w M hX=>?_
 refine ZF ct hf hE1.app.1 (MX hx hE1.app.2) (hc w M hX) ?_ (λ ch w' hr=>?_) (λ w' hr=>?_)
 ·rintro v w' ⟨g,M',he,hp,hg,hF⟩ ac hs
  cases he
  have:=SK hs hd (ux g)
  rw[hu]at this
  exact c.W.back (hn g hp _ w' ⟨this,M',hX.st.grow hg,(VD hF).app (hX.f.mono (hg.le hX.st.sat)),hX.le.trans (hg.le hX.st.sat)⟩)
 ·obtain⟨g,M',he,_⟩:=hr;cases he
 ·obtain⟨g,M',he,_⟩:=hr;cases he
theorem AU{γ:Type}(ids:List Nat)(ux:γ->XV)(ks:List Nat)(Hx:γ->List (Nat×HX)){u:γ->Value}{pu:γ->Prop}{Fg:γ->List (Nat×Kn)}{Hg:γ->List HO}{xf:Operand}{f:FuncId}{fa fb:List Value}{E1 E2:List Ck}{xs:List Operand}{tys:Array TypeId}{vs:List XV}{A R:List (Nat×HX)}{dd:Option Tmp}
  (h:run c.T c.N k m s=⟨k',.ops all (⟨dd,.call ⟨.value xf,⟨xs⟩,tys⟩,ty,ps,af,none⟩::rest),s',O,E⟩) (hE:AG E) (hO:O) (hf:callee s'.L xf=some (f,fa,fb,E1)) (ct:CT c.P f) (hd:uJ dd c.N=true) (hx:JT s'.L .t xs=some (vs,E2)) (hE1:AG (E1++E2))
  (hA:LP ids s'.H=some (A,R)) (hc: ∀w M,St c.w0 c.M0 w M (HD A++(HD R++c.Hr))->BJ M s'.F->Calls c.P f (fa++vs.map XV.d++fb).toArray w (DQ c.w0 c.M0 M (HD R++c.Hr) u pu Fg Hg)) (hu: ∀g,(ux g).d=u g) (hH: ∀g,HD (Hx g)=Hg g)
  (hn: ∀g,pu g->XG c B k' (.ops all rest) ⟨SJ ks (Fg g)++s'.F,Hx g++R,gZ dd (ux g) s'.L⟩):XG c B k m s:=by
 refine HS h hE hO λ w M hX=>?_
 have hSt:St c.w0 c.M0 w M (HD A++(HD R++c.Hr)):=hX.st.perm (by rw[<-List.append_assoc];exact(NX hA).append_right _)
 refine ZF ct hf hE1.app.1 (MX hx hE1.app.2) (hc w M hSt hX.f) ?_ (λ ch w' hr=>?_) (λ w' hr=>?_)
 ·rintro v w' ⟨g,M',he,hp,hle,hS,hF⟩ ac hs
  cases he
  have hs2:AK (ac.put dd (u g)) c.N (XE.d (gZ dd (ux g) s'.L)):=by
   cases dd with
   |some d=>have:=SK hs hd (ux g);rw[hu]at this;exact this
   |none=>exact hs
  refine c.W.back (hn g hp _ w' ⟨hs2,M',?_,(VD hF).app (hX.f.mono hle),hX.le.trans hle⟩)
  have e:HD (Hx g++R)++c.Hr=Hg g++(HD R++c.Hr):=by rw[<-hH];unfold HD;rw[List.map_append,List.append_assoc]
  rw[e];exact hS
 ·obtain⟨g,M',he,_⟩:=hr;cases he
 ·obtain⟨g,M',he,_⟩:=hr;cases he
theorem VE{b:Bool}(hb:b=true){E:List Ck}(h:E=[.b true b]):AG E:=by
 subst h;intro c hc;rw[List.mem_singleton.1 hc];exact λ _=>hb
theorem SL(vd:XV){op:Op}{gd:Option (Nat×Bool)}{b:Bool}(h:run c.T c.N k m s=⟨k',.ops all (⟨some d,op,ty,ps,af,gd⟩::rest),s',O,E⟩)(hE:AG E)(hO:O)(hg:(JS all s'.L gd,Nat.blt d c.N)=(some (.g b),true))
  (h1:b=true->XG c B k' (.ops all (⟨some d,op,ty,ps,af,none⟩::rest)) s') (h2:b=false->XG c B k' (.ops all rest) ⟨s'.F,s'.H,(d,.g b,vd)::s'.L⟩):XG c B k m s:=by
 simp only[Prod.mk.injEq]at hg
 refine CI h hE hO λ a w ⟨hs,M,hX⟩=>?_
 have hwt:=D0.wanted (o:=⟨some d,op,ty,ps,af,gd⟩) (MT hg.1) hs
 have hbd:(Gd.g b).d=b:=rfl
 rw[hbd]at hwt
 cases b with
 |true=>exact c.W.want hwt (h1 U a w ⟨hs,M,hX⟩)
 |false=>
  refine c.W.one ?_
  unfold wpList
  rw[hwt]
  refine c.W.back (h2 U _ w ⟨?_,M,hX⟩)
  exact hs.put hg.2 false vd.d
def QB(
     T:TT) (H:List (Nat×HX)) (L:XE):List ResultVar->Option (List XV×List Ck)
 |[]=>some ([],[])
 |r::rs=>match QB T H L rs with
  |some (vs,E)=>match r with
   | .tmp t=>match BL L t with
    |some (.t,v)=>some (v::vs,E)
    |_=>none
   | .cell t ty=>match BL L t with
    |some (.t,.bx k b o)=>match V2 T [] H ty (.bx k b o)with
     |some (v,[],E')=>some (v::vs,E'++E)
     |_=>none
    |_=>none
  |none=>none
def SM:List XV->Value
 |[v]=>v.d
 |vs=>.tuple (vs.map XV.d).toArray
theorem ZG{P:Program}{T:TT}(hT:EN P T){H:List (Nat×HX)}{Hr:List HO}{w0 w:World}{M0 M:Mem}{L:XE}{a:Act}{N:Nat}(hS:St w0 M0 w M (HD H++Hr))(hs:AK a N L.d): ∀ {rs:List ResultVar} {vs:List XV} {E:List Ck},QB T H L rs=some (vs,E)->AG E->(rs.mapM (JD a.tmps)).run P w= .ok (vs.map XV.d) w
 |[],vs,E,h,_=>by simp only[QB,Option.some.injEq,Prod.mk.injEq]at h;obtain⟨rfl,rfl⟩:=h;rfl
 |r::rs,vs,E,h,hE=>by
  unfold QB at h
  split at h
  ·rename_i vs' E' h1
   have fin: ∀(v:XV),(JD a.tmps r).run P w= .ok v.d w->AG E'->((r::rs).mapM (JD a.tmps)).run P w= .ok ((v::vs').map XV.d) w:=λ v hv hE'=>by
    simp only[List.mapM_cons,Sem.run_bind,hv,Result.andThen_ok,ZG hT hS hs h1 hE',Sem.run_pure,List.map_cons]
   split at h
   ·split at h
    ·rename_i t v hl
     simp only[Option.some.injEq,Prod.mk.injEq]at h;obtain⟨rfl,rfl⟩:=h
     exact fin _ (by simp only[JD,hs.get (HN hl)];rfl) hE
    ·cases h
   ·split at h
    ·rename_i t ty x2 k b o hl
     split at h
     ·rename_i v E2 h2
      simp only[Option.some.injEq,Prod.mk.injEq]at h;obtain⟨rfl,rfl⟩:=h
      refine fin _ ?_ hE.app.2
      have hp:PV P (· =w) L.d true ⟨some 0,.load ty (.tmp t),0,"",#[],none⟩ v.d:=fZ (W:=.t) (gd:=none) hT (F:=[]) (Hr:=Hr) AF hS AX h2 hE.app.1 (.t (HN hl)) (λ _=>trivial)
      have h3:=hp a N hs U w U
      have h4:=hs.get (HN hl)
      have h5:a.tmps.getD t undef= .pointer (some ⟨b,o,none⟩):=h4
      have h6:a.eval (.tmp t)= .pointer (some ⟨b,o,none⟩):=h5
      simp only[execOp,h6,Sem.run_bind,Instr.loadAt,Instr.sureAddr,Sem.run_pure,Result.andThen_ok]at h3
      simp only[JD,h5,asAddr,Sem.run_bind,Sem.run_pure,Result.andThen_ok]
      cases hl2:(loadVar ty ⟨b,o,none⟩).run P w with
      |ok x w'=>rw[hl2]at h3;simp only[Result.andThen_ok,Result.ok.injEq,Next.value.injEq]at h3;obtain⟨rfl,rfl⟩:=h3;rfl
      |halt x w'=>rw[hl2]at h3;cases h3
     ·cases h
    ·cases h
  ·cases h
theorem AD{fn:Func}{R:Ending->World->Prop}{rs:List ResultVar}{vs:List XV}{E2:List Ck}(hB:Ends c.P fn R B)(hr:fn.results=⟨rs⟩)(h:run c.T c.N k m s=⟨[],.ret,s',O,E⟩)(hE:AG E)(hO:O)(hl:QB c.T s'.H s'.L rs=some (vs,E2))(hE2:AG E2)(hR: ∀w M,DX c s'.F s'.H w M->R (.returned (SM vs)) w):XG c B k m s:=
 CI h hE hO λ a w ⟨h1,M,h2⟩=>hB.all _ _ _ (bodyPost_ret (v:=SM vs) (by
  rw[XJ,hr]
  have h3:=ZG c.hT h2.st h1 hl hE2
  have h4:((⟨rs⟩:Array ResultVar).mapM (JD a.tmps)).run c.P w= .ok (vs.map XV.d).toArray w:=by
   rw[Array.mapM_eq_mapM_toList]
   refine(Sem.run_bind' c.P _ _ w).trans ?_
   rw[h3];rfl
  rw[Sem.run_bind,h4]
  simp only[Result.andThen_ok,Sem.run_pure]
  congr 1
  match vs with
  |[]=>rfl
  |[v]=>rfl
  |_::_::_=>simp[SM]) h1.CZ (hR w M h2))
theorem NY{fn:Func}{R:Ending->World->Prop}(hB:Ends c.P fn R B)(hr:fn.results= #[])(h:run c.T c.N k m s=⟨[],.next,s',O,E⟩)(hE:AG E)(hO:O)(hR: ∀w M,DX c s'.F s'.H w M->R (.returned (.tuple #[])) w):XG c B k m s:=
 CI h hE hO λ a w ⟨h1,M,h2⟩=>hB.e0 hr (hR w M h2) a h1
def XQ(c:Cx)(B:Exit->Act->World->Prop)(k:List Fr)(all:Array Oper)(l:List Oper)(s:XS):Prop:= ∀w M,DX c s.F s.H w M->RQ c.P all (λ w'=>Ext w w') c.N (λ a=> ∀w',St c.w0 c.M0 w' M (HD s.H++c.Hr)->post c B k .normal a w') l s.L.d
theorem SN{id:Nat}{l:List Oper}(h:run c.T c.N k m s=⟨k',.code (.region id ⟨l⟩ true),s',O,E⟩)(hE:AG E)(hO:O)(hm:c.P.follows .mixedOrders=true)(hB:Region.lexB .any l.toArray=true)(hn:XQ c B k' l.toArray l s'):XG c B k m s:=
 CI h hE hO λ a w ⟨h1,M,h2⟩=>c.W.draw (CW.OH h2.st hm hB (hn w M h2) a h1)
structure QR:Type where
 l:List Oper
 L:XE
 O:Prop
 E:List Ck
def SO(W:Gd):List Prop->Prop->(Prop->QR)->QR
 |[],O,K=>K O
 |p::ps,O,K=>match W with
  | .t=>SO W ps (p/\O) K
  | .g b=>SO W ps ((b=false\/p)/\O) K
theorem VF{W:Gd}{K:Prop->QR}: ∀ {ps:List Prop} {O:Prop},∃O',SO W ps O K=K O'/\(O'->(W.d=true->HQ ps)/\O)
 |[],O=>⟨O,rfl,λ h=>⟨λ _=>trivial,h⟩⟩
 |p::ps,O=>by
  unfold SO
  cases W with
  |t=>
   obtain⟨O',h1,h2⟩:=VF (W:=.t) (K:=K) (ps:=ps) (O:=p/\O)
   exact⟨O',h1,λ h=>⟨λ hW=>⟨(h2 h).2.1,(h2 h).1 hW⟩,(h2 h).2.2⟩⟩
  |g b=>
   obtain⟨O',h1,h2⟩:=VF (W:=.g b) (K:=K) (ps:=ps) (O:=(b=false\/p)/\O)
   exact⟨O',h1,λ h=>⟨λ hW=>⟨(h2 h).2.1.resolve_left (by rw[show b=true from hW];decide),(h2 h).1 hW⟩,(h2 h).2.2⟩⟩
def JV(
     T:TT) (N:Nat) (F:List (Nat×Kn)) (H:List (Nat×HX)) (all:Array Oper):List Oper->XE->Prop->List Ck->QR
 |[],L,O,E=>⟨[],L,O,E⟩
 |⟨dst,op,ty,ps,af,gd⟩::rest,L,O,E=>match dst with
  |some d=>match JS all L gd with
   |some W=>match Q2 T F H L W op with
    |some (v,p,E')=>match Nat.blt d N with
     |true=>SO W p O λ O'=>JV T N F H all rest ((d,W,v)::L) O' (E'++E)
     |false=>⟨⟨dst,op,ty,ps,af,gd⟩::rest,L,O,E⟩
    |none=>⟨⟨dst,op,ty,ps,af,gd⟩::rest,L,O,E⟩
   |none=>⟨⟨dst,op,ty,ps,af,gd⟩::rest,L,O,E⟩
  |none=>⟨⟨dst,op,ty,ps,af,gd⟩::rest,L,O,E⟩
theorem ZH{F:List (Nat×Kn)}{H:List (Nat×HX)}: ∀ {l:List Oper} {L:XE} {O:Prop} {E:List Ck},let t:=JV c.T c.N F H all l L O E;t.O->AG t.E->XQ c B k all t.l ⟨F,H,t.L⟩->O/\AG E/\XQ c B k all l ⟨F,H,L⟩
 |[],L,O,E=>λ h1 h2 h3=>⟨h1,h2,h3⟩
 |⟨dst,op,ty,ps,af,gd⟩::rest,L,O,E=>by
  intro t h1 h2 h3
  have ht:t=JV c.T c.N F H all (⟨dst,op,ty,ps,af,gd⟩::rest) L O E:=rfl
  unfold JV at ht
  split at ht
  ·rename_i d
   split at ht
   ·rename_i W hW
    split at ht
    ·rename_i v p E' hv
     split at ht
     ·rename_i hd
      obtain⟨O',hi,hO'⟩:=VF (W:=W) (K:=λ O'=>JV c.T c.N F H all rest ((d,W,v)::L) O' (E'++E)) (ps:=p) (O:=O)
      rw[ht,hi]at h1 h2 h3
      obtain⟨r1,r2,r3⟩:=ZH h1 h2 h3
      obtain⟨hp,hO2⟩:=hO' r1
      refine⟨hO2,(AG.app r2).2,λ w M hX=>?_⟩
      exact RQ.v (MT hW) (S4 c.hT hX.f hX.st (λ _ h=>h) hv (AG.app r2).1 hp) hd (r3 w M hX)
     ·rw[ht]at h1 h2 h3;exact⟨h1,h2,h3⟩
    ·rw[ht]at h1 h2 h3;exact⟨h1,h2,h3⟩
   ·rw[ht]at h1 h2 h3;exact⟨h1,h2,h3⟩
  ·rw[ht]at h1 h2 h3;exact⟨h1,h2,h3⟩
theorem SP{l:List Oper}{F:List (Nat×Kn)}{H:List (Nat×HX)}{L L':XE}(h:JV c.T c.N F H all l L ((0:Int)=0) []=⟨[],L',O,E⟩)(hE:AG E)(hO:O)(hn:XG c B k .next ⟨F,H,L'⟩):XQ c B k all l ⟨F,H,L⟩:=by
 have:=ZH (c:=c) (B:=B) (k:=k) (all:=all) (F:=F) (H:=H) (l:=l) (L:=L) (O:=(0:Int)=0) (E:=[])
 rw[h]at this
 exact(this hO hE λ w M hX=>RQ.nil λ a hs w' hS=>hn a w' ⟨hs,M,hS,hX.f,hX.le⟩).2.2
theorem QC{l:List Oper}{F:List (Nat×Kn)}{H:List (Nat×HX)}{L L':XE}{f:FuncId}{xs:List Operand}{tys:Array TypeId}{gd:Option (Nat×Bool)}{W:Gd}{vs:List XV}{E2:List Ck}{u:Value}{v:XV}
  (h:JV c.T c.N F H all l L ((0:Int)=0) []=⟨⟨some d,.call ⟨.value (.func f),⟨xs⟩,tys⟩,ty,ps,af,gd⟩::rest,L',O,E⟩) (hE:AG E) (hO:O) (ct:CT c.P f) (hg:(JS all L' gd,Nat.blt d c.N)=(some W,true)) (hx:JT L' W xs=some (vs,E2)) (hE2:AG E2)
  (hc:W.d=true-> ∀w M,DX c F H w M->Calls c.P f (vs.map XV.d).toArray w (λ e w'=>e= .returned u/\Ext w w')) (hv:vx u=some v) (hn:XQ c B k all rest ⟨F,H,(d,W,v)::L'⟩):XQ c B k all l ⟨F,H,L⟩:=by
 simp only[Prod.mk.injEq]at hg
 have:=ZH (c:=c) (B:=B) (k:=k) (all:=all) (F:=F) (H:=H) (l:=l) (L:=L) (O:=(0:Int)=0) (E:=[])
 rw[h]at this
 refine(this hO hE λ w M hX=>?_).2.2
 have h4:=hn w M hX
 have h5:XE.d ((d,W,v)::L')=(d,W.d,u)::L'.d:=by rw[<-Z9 hv];rfl
 have h6:RQ c.P all (λ w'=>Ext w w') c.N (λ a=> ∀w',St c.w0 c.M0 w' M (HD H++c.Hr)->post c B k .normal a w') rest ((d,W.d,u)::L'.d):=h5▸h4
 exact RQ.call (MT hg.1) ct (MX hx hE2) (λ hW w1 hw1=>(hc hW w1 M ⟨hX.st.ext hw1,hX.f,hX.le⟩).mono λ e w' ⟨h1,h2⟩=>⟨h1,hw1.trans h2⟩) hg.2 h6
end
end Go.Eng
namespace Go.Eng
open Go.RowKit
abbrev FR(ro:Option Nat):Fence:= { Fence.wide with round:=ro}
theorem uK{n:Nat}{P:Program}{row:String}{args:Array Value}{w:World}{R:Value->World->Prop}(h:Rows P row args w R):RowsIn Fence.wide n P row args w R:=
 λ c cs _=>let⟨v,w',r,s⟩:=h c cs;⟨v,w',r,stepsIn_wide.2 s⟩
def OV(o:Oper):Bool:=match o.op with
 | .defer _=>false
 |_=>true
theorem uL{o:Oper}(h:OV o=true): ∀c,o.op≠ .defer c:=λ c e=>by unfold OV at h;rw[e]at h;cases h
theorem VG{K:Act->World->Prop}{Q:Exit->Act->World->Prop}(h: ¬LetsOut Q): ¬LetsOut (Exit.then K Q):=λ⟨a,w,x⟩=>h ⟨a,w,x⟩
theorem uM{id:Nat}{Q:Exit->Act->World->Prop}(h: ¬LetsOut Q): ¬LetsOut (Exit.inBlock id Q):=λ⟨a,w,x⟩=>h ⟨a,w,x⟩
theorem uN{P:Program}{ro:Option Nat}{n:Nat}{o:Oper}{a:Act}{w:World}{K:Act->World->Prop}{Q:Exit->Act->World->Prop}(hd:OV o=true)(h:o.wp P a w K Q):o.wpIn (FR ro) n P a w K Q:=by
 refine⟨λ _ _=>trivial,?_⟩
 rw[show(FR ro).round=ro from rfl,show Oper.semAt ro a.eval o=execOp a.eval o by cases ro with|none=>rfl|some l=>exact Oper.semAt_some l a.eval o (uL hd)]
 unfold Oper.wp at h
 generalize (execOp a.eval o).run P w=r at*
 have hdep:((FR ro).depth.isSome=true->1<=n):=λ h=>by cases h
 cases r with
 |ok x w'=>
  cases x with
  |enter f args=>exact⟨hdep,callsIn_wide.2 h⟩
  |row r args=>exact⟨hdep,uK h⟩
  |round l2 f t vs b=>exact absurd h (by simp[Oper.upon])
  |_=>exact h
 |halt s w'=>cases s<;>exact h
def Wk.VH (P:Program)(ro:Option Nat)(n:Nat):Wk P where
 wp:=λ x Q a w=> ¬LetsOut Q->DH x=true->x.wpIn (FR ro) n P Q a w
 list:=λ ops Q rest a w=> ¬LetsOut Q->rest.all OV=true->wpListIn (FR ro) n P ops Q rest a w
 mono:=λ h hq hl hs=>wpIn_mono (h (λ⟨a,w,x⟩=>hl ⟨a,w,hq _ _ _ x⟩) hs) hq
 skip:=λ h _ _=>wpIn_skip h
 seq:=λ{x y Q a w} h hl hs=>by
  have hs2:DH x=true/\DH y=true:=by simpa[DH]using hs
  refine wpIn_seq (wpIn_mono (h (VG hl) hs2.1) λ e a w q=>?_)
  exact SI (λ a w k=>k hl hs2.2) (λ _ _ _ h=>h) e a w q
 region:=λ{id ops Q a w} h hl hs=>by
  have hs2:ops.toList.all OV=true:=by
   simp only[DH,Bool.not_false,Bool.true_and]at hs
   exact hs
  exact wpIn_region_list (h hl hs2)
 draw:=λ h hl hs=>by simp[DH]at hs
 block:=λ h hl hs=>wpIn_block (h (uM hl) hs)
 scope:=λ h hl hs=>by simp[DH]at hs
 exit:=λ h _ _=>wpIn_exit h
 ret:=λ h _ _=>wpIn_ret h
 cond:=λ{o x y t Q a w} hc h hl hs=>by
  have hs2:DH x=true/\DH y=true:=by simpa[DH]using hs
  refine wpIn_cond hc (h hl ?_)
  split
  ·exact hs2.1
  ·exact hs2.2
 loop:=λ{σ x Q a w} J μ s₀ h₀ hr hl hs=>by
  intro b k cs hro hb hrm
  have key: ∀j s a w,μ s=j->J s a w->
    ∃e a' w',Q e a' w'/\ArrivesIn (Machine.fenced P (FR ro)) P (lone (b.atR a (.code x:: .inLoop x::k)) cs w) b k cs e a' w':=by
   intro j
   induction j using Nat.strongRecOn with
   |_ j ih=>
    intro s a w hn hJ
    obtain⟨e,a₁,w₁,hq,harr⟩:=hr s a w hJ (VG hl) hs b (.inLoop x::k) cs hro hb hrm
    cases e with
    |normal=>
     obtain⟨s',hJ',hlt⟩:=hq
     obtain⟨e₂,a₂,w₂,hq₂,harr₂⟩:=ih (μ s') (hn▸hlt) s' a₁ w₁ rfl hJ'
     exact⟨e₂,a₂,w₂,hq₂,.of_steps (StepsIn.trans harr (.one (fenced_calm hb hrm U) stepR_inLoop)) harr₂⟩
    |exit id=>exact⟨_,a₁,w₁,hq,.pass (x:=.inLoop x) U (λ _ _=>.inl (by simp)) harr⟩
    |goto l=>exact⟨_,a₁,w₁,hq,.pass (x:=.inLoop x) U (λ _ _=>.inl (by simp)) harr⟩
    |ret=>exact⟨_,a₁,w₁,hq,.pass (x:=.inLoop x) U (λ _ _=>.inl (by simp)) harr⟩
    |panic ch=>exact⟨_,a₁,w₁,hq,.pass (x:=.inLoop x) U (λ _ _=>.inl (by simp)) harr⟩
    |outgrown=>exact⟨_,a₁,w₁,hq,.pass (x:=.inLoop x) U (λ _ _=>.inl (by simp)) harr⟩
  obtain⟨e,a',w',hq,harr⟩:=key _ s₀ a w rfl h₀
  exact⟨e,a',w',hq,.of_steps (.one (fenced_calm hb hrm U) stepR_loop) harr⟩
 nil:=λ h _ _=>h
 one:=λ{ops Q o rest a w} h hl hs=>by
  rw[List.all_cons,Bool.and_eq_true]at hs
  unfold wpList at h
  unfold wpListIn
  split at h
  ·rename_i hw;rw[if_pos hw]
   rcases h with h|⟨_,a',w',h2⟩
   ·have h3:=S9 h
    have h4:o.wp P a w (wpListIn (FR ro) n P ops Q rest) Q:=Oper.wp_mono (λ a w (k: ¬LetsOut Q->rest.all OV=true->_)=>k hl hs.2) h3
    exact uN hs.1 h4
   ·exact absurd ⟨a',w',h2⟩ hl
  ·rename_i hw;rw[if_neg hw]
   have h': ¬LetsOut Q->rest.all OV=true->_:=h
   exact⟨λ _ _=>trivial,h' hl hs.2⟩
 want:=λ{ops Q d op ty ps af gd rest a w} hw h hl hs=>by
  have:=h hl hs
  unfold wpListIn at this ⊢
  rw[hw,if_pos U]
  rw[show Region.wanted ⟨d,op,ty,ps,af,none⟩ (yielded ops a.tmps)=true from rfl,if_pos U]at this
  exact this
abbrev Wk.round (P:Program)(l n:Nat):Wk P:=Wk.VH P (some l) n
end Go.Eng
namespace Go.Eng
open Go.RowKit
def EO(ds:List Deferred)(a:Act):Act:= { a with defers:=a.defers++ds}
def SQ(ds:List Deferred)(Q:Exit->Act->World->Prop):Exit->Act->World->Prop:=λ e a w=> ∃a0,a=EO ds a0/\Q e a0 w
theorem QD(ds:List Deferred)(a:Act)(d:Option Tmp)(v:Value):(EO ds a).put d v=EO ds (a.put d v):=by cases d<;>rfl
theorem uO{P:Program}{ds:List Deferred}{o:Oper}{a:Act}{w:World}{K:Act->World->Prop}{Q:Exit->Act->World->Prop}(h:o.wp P a w K Q):
  o.wp P (EO ds a) w (λ a' w'=> ∃a0,a'=EO ds a0/\K a0 w') (SQ ds Q):=by
 unfold Oper.wp at*
 rw[show(EO ds a).eval=a.eval from rfl]
 generalize (execOp a.eval o).run P w=r at*
 cases r with
 |ok x w'=>
  cases x with
  |value v=>exact⟨_,QD _ _ _ _,h⟩
  |skip=>exact⟨_,QD _ _ _ _,h⟩
  |defer d=>exact⟨_,QD ds { a with defers:=d::a.defers} _ _,h⟩
  |enter f args=>
   refine Calls.mono h λ e w'' k=>?_
   cases e with
   |returned v=>exact⟨_,QD _ _ _ _,k⟩
   |panicked ch=>exact⟨_,rfl,k⟩
   |outgrown=>obtain⟨a0,w0,k⟩:=k;exact⟨_,w0,a0,rfl,k⟩
  |row r args=>exact Rows.mono h λ v w'' k=>⟨_,QD _ _ _ _,k⟩
  |_=>exact h
 |halt s w'=>cases s<;>first|exact h|exact⟨_,rfl,h⟩
def Wk.CZ (P:Program)(ds:List Deferred):Wk P where
 wp:=λ x Q a w=>DH x=true->x.wp P (SQ ds Q) (EO ds a) w
 list:=λ ops Q l a w=>wpList P ops (SQ ds Q) l (EO ds a) w
 mono:=λ h hq hs=>wp_mono (h hs) λ e a w ⟨a0,e0,q⟩=>⟨a0,e0,hq _ _ _ q⟩
 skip:=λ h _=>wp_skip ⟨_,rfl,h⟩
 seq:=λ{x y Q a w} h hs=>by
  have hs2:DH x=true/\DH y=true:=by simpa[DH]using hs
  refine wp_seq (wp_mono (h hs2.1) λ e a w ⟨a0,e0,q⟩=>?_)
  subst e0
  cases e with
  |normal=>exact q hs2.2
  |_=>exact⟨a0,rfl,q⟩
 region:=λ h _=>wp_region_list h
 draw:=λ h hs=>by simp[DH]at hs
 block:=λ{id x Q a w} h hs=>wp_block (wp_mono (h hs) λ e a w ⟨a0,e0,q⟩=>by
  subst e0
  cases e with
  |exit id'=>
   show if id'=id then _ else _
   have q':if id'=id then Q .normal a0 w else Q (.exit id') a0 w:=q
   split<;>rename_i hid
   ·rw[if_pos hid]at q';exact⟨a0,rfl,q'⟩
   ·rw[if_neg hid]at q';exact⟨a0,rfl,q'⟩
  |_=>exact⟨a0,rfl,q⟩)
 scope:=λ h hs=>by simp[DH]at hs
 exit:=λ h _=>wp_exit ⟨_,rfl,h⟩
 ret:=λ h _=>wp_ret ⟨_,rfl,h⟩
 cond:=λ{o x y t Q a w} hc h hs=>by
  have hs2:DH x=true/\DH y=true:=by simpa[DH]using hs
  refine wp_cond (t:=t) (by rw[show(EO ds a).eval=a.eval from rfl];exact hc) (h ?_)
  split
  ·exact hs2.1
  ·exact hs2.2
 loop:=λ{σ x Q a w} J μ s₀ h₀ hr hs=>by
  refine gR (λ s a w=> ∃a0,a=EO ds a0/\J s a0 w) μ s₀ ⟨a,rfl,h₀⟩ λ s a w ⟨a0,e0,hJ⟩=>?_
  subst e0
  refine wp_mono (hr s a0 w hJ hs) λ e a w ⟨a1,e1,q⟩=>?_
  subst e1
  cases e with
  |normal=>obtain⟨s',h1,h2⟩:=q;exact⟨s',⟨a1,rfl,h1⟩,h2⟩
  |_=>exact⟨a1,rfl,q⟩
 nil:=λ h=>⟨_,rfl,h⟩
 one:=λ{ops Q o rest a w} h=>by
  unfold wpList at h ⊢
  rw[show(EO ds a).tmps=a.tmps from rfl]
  split at h
  ·rename_i hw;rw[if_pos hw]
   rcases h with h|⟨h1,a',w',h2⟩
   ·exact .inl (Oper.wp_mono (λ a' w' ⟨a0,e0,k⟩=>by subst e0;exact k) (uO (S9 h)))
   ·exact .inr ⟨h1,_,w',a',rfl,h2⟩
  ·rename_i hw;rw[if_neg hw,QD];exact h
 want:=λ{ops Q d op ty ps af gd rest a w} hw h=>by
  unfold wpList at h ⊢
  rw[show(EO ds a).tmps=a.tmps from rfl]at h ⊢
  rw[hw,if_pos U]
  rw[show Region.wanted ⟨d,op,ty,ps,af,none⟩ (yielded ops a.tmps)=true from rfl,if_pos U]at h
  exact h
end Go.Eng
