/-
  Parts EngM EngP Xk Xl, put together and made short by wip/py/merge.py (mini.py).
-/
import Derived.Test.YtmjpjbmeamnfpaaGreatDoorZe4
import Derived.Test.YtmjpjbmeamnfpaaGreatDoorZe7
import Derived.Test.YtmjpjbmeamnfpaaGreatDoorZe5
import Derived.Test.YtmjpjbmeamnfpaaGreatDoorZe0
set_option linter.unusedVariables false
set_option linter.unusedSimpArgs false
namespace Go.Eng
open Go.RowKit
theorem qF{α:Type}(f:α->List Value)(sz:Nat)(hf: ∀x,(f x).length=sz)(l:List α)(a b j:Nat)(hab:a<=b)(hb:b<=l.length)(hj:j<(b-a)*sz):
  (l.flatMap f)[a*sz+j]? =(((l.drop a).take (b-a)).flatMap f)[j]?:=by
 have e:l=l.take a++((l.drop a).take (b-a)++(l.drop a).drop (b-a)):=by rw[List.take_append_drop,List.take_append_drop]
 have e2:l.flatMap f=(l.take a).flatMap f++(((l.drop a).take (b-a)).flatMap f++((l.drop a).drop (b-a)).flatMap f):=by
  conv=>lhs;rw[e]
  rw[List.flatMap_append,List.flatMap_append]
 have h1:((l.take a).flatMap f).length=a*sz:=by rw[G8 f sz hf,List.length_take,Nat.min_eq_left (by omega)]
 have h2:(((l.drop a).take (b-a)).flatMap f).length=(b-a)*sz:=by rw[G8 f sz hf,List.length_take,List.length_drop,Nat.min_eq_left (by omega)]
 rw[e2,List.getElem?_append_right (by omega),h1,show a*sz+j-a*sz=j from by omega,List.getElem?_append_left (by omega)]
theorem XD{α:Type}{f:α->List Value}{M:Mem}{sz:Nat}{v:Value}{l:List α}(h:Sl M sz l.length v (l.flatMap f))(hf: ∀x,(f x).length=sz){a b:Int}(h0:0<=a)(h1:a<=b)(h2:b<=len l):
  ∃p cap,v= .slice p l.length cap/\l.length<=cap/\Sl M sz (Eng.sub l a b).length (sliced p a.toNat b.toNat cap sz) ((Eng.sub l a b).flatMap f):=by
 obtain⟨p,cap,hv,hc,hm,hp⟩:=h.val
 refine⟨p,cap,hv,hc,?_⟩
 unfold len at h2
 have hl:(Eng.sub l a b).length=b.toNat-a.toNat:=by unfold Eng.sub;rw[List.length_take,List.length_drop];omega
 refine⟨by rw[G8 f sz hf],_,_,by unfold sliced;rw[hl],by rw[hl];omega,by omega,λ hn=>?_⟩
 rw[hl]at hn
 obtain⟨b0,o,hpe,hcell⟩:=hp (by omega)
 refine⟨b0,o+a.toNat*sz,by rw[if_neg (by omega),hpe,Option.map_some,HB],λ j hj=>?_⟩
 rw[G8 f sz hf,hl]at hj
 have hlen:a.toNat*sz+j<(l.flatMap f).length:=by
  rw[G8 f sz hf]
  have:=Nat.mul_le_mul_right sz (show a.toNat+(b.toNat-a.toNat)<=l.length by omega)
  rw[Nat.add_mul]at this;omega
 rw[Nat.add_assoc,hcell _ hlen]
 exact qF f sz hf l a.toNat b.toNat j (by omega) (by omega) hj
section sl
variable {P:Program} {α:Type} {f:α->List Value} {M:Mem} {sz:Nat} {v:Value} {l:List α} {t e:TypeId}
theorem O7(ht:P.underlying t=some (.slice e)):P.elem t=e:=by unfold Program.elem;rw[ht]
theorem qG(h:Sl M sz l.length v (l.flatMap f))(hf: ∀x,(f x).length=sz)(ht:P.underlying t=some (.slice e))(hs: ∀w,(sizeOf e).run P w= .ok sz w)(a b:Int)(hr:0<=a/\a<=b/\b<=len l):
  ∃v',Sl M sz (Eng.sub l a b).length v' ((Eng.sub l a b).flatMap f)/\ ∀(k k':IntKind) w,(Instr.sliceAt t v (some (.int k a)) (some (.int k' b)) none).run P w= .ok v' w:=by
 obtain⟨h0,h1,h2⟩:=hr
 obtain⟨p,cap,hv,hc,hS⟩:=XD h hf h0 h1 h2
 have ht':P.underlying t=some (.slice (P.elem t)):=by rw[O7 ht];exact ht
 refine⟨_,hS,λ k k' w=>?_⟩
 rw[hv,run_sliceAt_slice w t _ _ _ _ ht',run_slice_lh w t p _ cap ht' k k' a b h0 h1 (by unfold len at h2;omega),O7 ht,hs]
 rfl
theorem qH(h:Sl M sz l.length v (l.flatMap f))(hf: ∀x,(f x).length=sz)(ht:P.underlying t=some (.slice e))(hs: ∀w,(sizeOf e).run P w= .ok sz w)(a b:Int)(hr:0<=a/\a<=b/\b<=len l)(ha:a=0:=by rfl):
  ∃v',Sl M sz (Eng.sub l a b).length v' ((Eng.sub l a b).flatMap f)/\ ∀(k':IntKind) w,(Instr.sliceAt t v none (some (.int k' b)) none).run P w= .ok v' w:=by
 subst ha
 obtain⟨h0,h1,h2⟩:=hr
 obtain⟨p,cap,hv,hc,hS⟩:=XD h hf h0 h1 h2
 have ht':P.underlying t=some (.slice (P.elem t)):=by rw[O7 ht];exact ht
 refine⟨_,hS,λ k' w=>?_⟩
 rw[hv,run_sliceAt_slice w t _ _ _ _ ht',run_slice_h w t p _ cap ht' k' b h1 (by unfold len at h2;omega),O7 ht,hs]
 rfl
theorem qI(h:Sl M sz l.length v (l.flatMap f))(hf: ∀x,(f x).length=sz)(ht:P.underlying t=some (.slice e))(hs: ∀w,(sizeOf e).run P w= .ok sz w)(a b:Int)(hr:0<=a/\a<=b/\b<=len l)(hb:b=len l:=by rfl):
  ∃v',Sl M sz (Eng.sub l a b).length v' ((Eng.sub l a b).flatMap f)/\ ∀(k:IntKind) w,(Instr.sliceAt t v (some (.int k a)) none none).run P w= .ok v' w:=by
 subst hb
 obtain⟨h0,h1,h2⟩:=hr
 obtain⟨p,cap,hv,hc,hS⟩:=XD h hf h0 h1 h2
 have ht':P.underlying t=some (.slice (P.elem t)):=by rw[O7 ht];exact ht
 refine⟨_,hS,λ k w=>?_⟩
 rw[hv,run_sliceAt_slice w t _ _ _ _ ht',run_slice_l w t p _ cap ht' k a h0 h1,O7 ht,hs]
 rfl
variable {C:World->Prop} {L:Env} {W:Bool} {d:Option Tmp} {ty:TypeId} {ps:String} {af:Array Edge} {gd:Option (Nat×Bool)} {x y z:Operand} {v':Value} {k k':IntKind} {a b:Int}
theorem PV.qJ (hx:A5 L W x v)(hy:A5 L W y (.int k a))(hz:A5 L W z (.int k' b))(hr: ∀(k k':IntKind) w,(Instr.sliceAt t v (some (.int k a)) (some (.int k' b)) none).run P w= .ok v' w):PV P C L W ⟨d,.slice t x (some y) (some z) none,ty,ps,af,gd⟩ v':=by
 intro ac N hs hW w _
 simp only[execOp,hx ac N hs hW,Option.map_some,Option.map_none,hy ac N hs hW,hz ac N hs hW]
 rw[Sem.run_bind,hr];rfl
theorem PV.qK (hx:A5 L W x v)(hz:A5 L W z (.int k' b))(hr: ∀(k':IntKind) w,(Instr.sliceAt t v none (some (.int k' b)) none).run P w= .ok v' w):PV P C L W ⟨d,.slice t x none (some z) none,ty,ps,af,gd⟩ v':=by
 intro ac N hs hW w _
 simp only[execOp,hx ac N hs hW,Option.map_some,Option.map_none,hz ac N hs hW]
 rw[Sem.run_bind,hr];rfl
theorem PV.qL (hx:A5 L W x v)(hy:A5 L W y (.int k a))(hr: ∀(k:IntKind) w,(Instr.sliceAt t v (some (.int k a)) none none).run P w= .ok v' w):PV P C L W ⟨d,.slice t x (some y) none none,ty,ps,af,gd⟩ v':=by
 intro ac N hs hW w _
 simp only[execOp,hx ac N hs hW,Option.map_some,Option.map_none,hy ac N hs hW]
 rw[Sem.run_bind,hr];rfl
end sl
end Go.Eng
namespace Go.Eng
open Go.RowKit
inductive PR (α:Type)where
 |ok (x:α) (j:Int)
 |er (e p:Int)
abbrev L9(T:TypeId)(e p:Int):PanicEntry:= { v:=.iface T (.agg #[i64 e,i64 p]),recovered:=false}
def TI{α:Type}(w0:World)(M0 M:Mem)(Rs:List HO)(T:TypeId)(F:α->Int->Value->Mem->World->Prop)(r:PR α):Ending->World->Prop:=λ e w'=>
 match r with
 | .ok x j=> ∃v M',e= .returned v/\F x j v M' w'/\M.le M'
 | .er ec p=> ∃M',e= .panicked [L9 T ec p]/\St w0 M0 w' M' Rs/\M.le M'
section
variable {P:Program} {α:Type} {w0 w:World} {M0 M M':Mem} {Rs:List HO} {T:TypeId} {F:α->Int->Value->Mem->World->Prop} {r:PR α}
theorem TI.ok {x:α}{j:Int}{v:Value}(h:r= .ok x j)(hf:F x j v M' w)(hle:M.le M'):TI w0 M0 M Rs T F r (.returned v) w:=by
 subst h;exact⟨v,M',rfl,hf,hle⟩
theorem TI.er {ec p:Int}(h:r= .er ec p)(hS:St w0 M0 w M' Rs)(hle:M.le M'):TI w0 M0 M Rs T F r (.panicked [L9 T ec p]) w:=by
 subst h;exact⟨M',rfl,hS,hle⟩
theorem Ends.p {fn:Func}{R:Ending->World->Prop}{Q:Exit->Act->World->Prop}{N:Nat}{L:Env}{ch:List PanicEntry}(E:Ends P fn R Q)(h:R (.panicked ch) w): ∀a,AF a N L->Q (.panic ch) a w:=λ a hs=>E.all _ _ _ ⟨hs.CD,h⟩
variable {ops:Array Oper} {Q:Exit->Act->World->Prop} {N:Nat} {rest:List Oper} {L:Env} {ty:TypeId} {ps:String} {af:Array Edge} {tys:Array TypeId}
theorem RL.panic {d:Option Tmp}{x:Operand}{t:TypeId}{v:Value}(hx:A5 L true x (.iface t v))(h: ∀a,AF a N L->Q (.panic [{ v:=.iface t v,recovered:=false}]) a w):RL P ops Q N (⟨d,.panic x,ty,ps,af,none⟩::rest) L w:=by
 intro a hs
 refine wpList_plain U λ K hK=>?_
 have key:(execOp a.eval ⟨d,.panic x,ty,ps,af,none⟩).run P w= .halt (.panic (.iface t v)) w:=by
  simp only[execOp,hx a N hs U];rw[Sem.run_bind,run_panic_iface];rfl
 simp only[Oper.wp,key,Oper.upon_panic]
 exact h a hs
end
end Go.Eng
namespace Go.Eng
open Go.RowKit
section
variable {c:Cx} {B:Exit->Act->World->Prop} {k k':List Fr} {m:Md} {s s':XS} {O:Prop} {E:List Ck} {all:Array Oper} {rest:List Oper} {d:Nat} {ty:TypeId} {ps:String} {af:Array Edge}
theorem I4(kk:Nat)(K:Kn)(h: ∀w M,D4 c s.F s.H w M->K.ok M)(hn:XG c B k m ⟨(kk,K)::s.F,s.H,s.L⟩):XG c B k m s:=λ a w ⟨h1,M,h2⟩=>hn a w ⟨h1,M,h2.st,C0 (h w M h2) h2.f,h2.le⟩
theorem QE(t kk:Nat){v:Value}{g:Gd}(hl:B6 s.L t=some (g,.v v))(hn:XG c B k m ⟨s.F,s.H,(t,g,.sl kk v)::s.L⟩):XG c B k m s:=λ a w ⟨h1,M,h2⟩=>hn a w ⟨⟨h1.size,h1.CD,λ t' g' v' ht=>by
 have ht':look ((t,g.d,v)::s.L.d) t'=some (g',v'):=ht
 by_cases he:t=t'
 ·subst he;rw[JH]at ht';cases ht';exact h1.val _ _ _ (FT hl)
 ·rw[HZ he]at ht';exact h1.val _ _ _ ht'⟩,M,h2⟩
theorem FL{o:Oper}(h:run c.T c.N k m s=⟨k',.ops all (o::rest),s',O,E⟩)(hE:A6 E)(hO:O)(hn: ∀w M,D4 c s'.F s'.H w M->RL c.P all (Exit.then (c.W.list all (post c B k') rest) (post c B k')) c.N [o] s'.L.d w):XG c B k m s:=
 CH h hE hO λ a w ⟨h1,M,h2⟩=>c.W.one (hn w M h2 a h1)
theorem FV{F:List (Nat×Kn)}{H:List (Nat×HX)}{L:XE}{L':Env}{l:List Oper}{w:World}{M:Mem}(h:XG c B k (.ops all l) ⟨F,H,L⟩)(hX:D4 c F H w M)(hL:L.d=L'):RL c.P all (Exit.then (c.W.list all (post c B k) l) (post c B k)) c.N [] L' w:=
 λ a hs=>c.W.back (h a w ⟨by rw[hL];exact hs,M,hX⟩)
theorem DT{op:Op}{gd:Option (Nat×Bool)}{W:Gd}(v:XV)(h:run c.T c.N k m s=⟨k',.ops all (⟨some d,op,ty,ps,af,gd⟩::rest),s',O,E⟩)(hE:A6 E)(hO:O)(hg:(GY all s'.L gd,Nat.blt d c.N)=(some W,true))
  (hp: ∀w M,D4 c s'.F s'.H w M->PV c.P (· =w) s'.L.d W.d ⟨some d,op,ty,ps,af,gd⟩ v.d) (hn:XG c B k' (.ops all rest) ⟨s'.F,s'.H,(d,W,v)::s'.L⟩):XG c B k m s:=by
 simp only[Prod.mk.injEq]at hg
 exact FL h hE hO λ w M hX=>RL.v (JS hg.1) (hp w M hX) hg.2 (FV hn hX U)
theorem CL(kk:Nat){t:TypeId}{z:Value}{cs:List XV}(h:run c.T c.N k m s=⟨k',.ops all (⟨some d,.alloc t,ty,ps,af,none⟩::rest),s',O,E⟩)(hE:A6 E)(hO:O)(hz: ∀w,(zeroValue t).run c.P w= .ok z w)(hd:(Nat.blt d c.N,NX z.cells.toList)=(true,some cs))
  (hn: ∀b,XG c B k' (.ops all rest) ⟨s'.F,(kk,.box b cs t)::s'.H,(d,.t,.bx kk b 0)::s'.L⟩):XG c B k m s:=by
 simp only[Prod.mk.injEq]at hd
 refine FL h hE hO λ w M hX=>RL.alloc hX.st hz hd.1 λ w' b hS=>FV (hn b) ⟨?_,hX.f,hX.le⟩ U
 show St _ _ _ _ (.box b (cs.map XV.d0) t::(HD s'.H++c.Hr))
 rw[T3 _ _ hd.2];exact hS
theorem F6(kk:Nat){t:TypeId}{x:Operand}{v:XV}{cs:List XV}{E1 E2:List Ck}(h:run c.T c.N k m s=⟨k',.ops all (⟨some d,.box t x,ty,ps,af,none⟩::rest),s',O,E⟩)(hE:A6 E)(hO:O)(hx:BI s'.L .t x=some (v,E1))(hd:(Nat.blt d c.N,cellsOf v,QB s'.F s'.H cs)=(true,some cs,some E2))(hE1:A6 (E1++E2))
  (hn: ∀b,XG c B k' (.ops all rest) ⟨s'.F,(kk,.box b cs t)::s'.H,(d,.t,.bx kk b 0)::s'.L⟩):XG c B k m s:=by
 simp only[Prod.mk.injEq]at hd
 refine FL h hE hO λ w M hX=>RL.box hX.st (AT hx hE1.app.1) hd.1 λ w' b hS=>FV (hn b) ⟨?_,hX.f,hX.le⟩ U
 have h1c:=O4 hX.f hX.st hd.2.2 hE1.app.2
 have hcells:v.d.cells.toList=cs.map XV.d0:=by
  rcases dI hd.2.1 with h7|⟨u,rfl,rfl,h8,h9⟩
  ·exact h7
  ·have e:v.d=v.d0:=by cases v<;>first|rfl|(exact absurd rfl (h8 _))|(exact absurd rfl (h9 _))
   rw[e,T7 (h1c _ (by simp))];rfl
 show St _ _ _ _ (.box b (cs.map XV.d0) t::(HD s'.H++c.Hr))
 rw[<-hcells];exact hS
theorem QF{α:Type}[Inhabited α](kk t:Nat)(e:TypeId)(sz:Nat)(f:α->List Value)(hf: ∀x,(f x).length=sz)(hl:B6 s.L t=some (.t,.v (.slice none 0 0)))
  (hn:XG c B k m ⟨(kk,kn (.slice none 0 0) sz ([]:List α) f)::s.F,(kk,.ho (.own e sz (.slice none 0 0) ([]:List α).length (([]:List α).flatMap f)))::s.H,(t,.t,.sl kk (.slice none 0 0))::s.L⟩):XG c B k m s:=by
 intro a w ⟨h1,M,h2⟩
 refine hn a w ⟨⟨h1.size,h1.CD,λ t' g v ht=>?_⟩,M,h2.st.IM e sz,C0 ⟨?_,hf,trivial⟩ h2.f,h2.le⟩
 ·have hl':=FT hl
  by_cases he:t=t'
  ·subst he
   have ht':look ((t,true,Value.slice none 0 0)::s.L.d) t=some (g,v):=ht
   rw[JH]at ht';cases ht'
   exact h1.val _ _ _ hl'
  ·have ht':look ((t,true,Value.slice none 0 0)::s.L.d) t'=some (g,v):=ht
   rw[HZ he]at ht'
   exact h1.val _ _ _ ht'
 ·exact Sl.nil M sz
def O8(L:XE):List (Nat×Operand)->Option (List (Nat×XV)×List Ck)
 |[]=>some ([],[])
 |(i,x)::xs=>match BI L .t x with
  |some (v,E)=>match O8 L xs with
   |some (vs,E')=>some ((i,v)::vs,E++E')
   |none=>none
  |none=>none
theorem XH{L:XE}: ∀ {xs:List (Nat×Operand)} {vs:List (Nat×XV)} {E:List Ck},O8 L xs=some (vs,E)->A6 E->ES L.d true xs (vs.map λ x=>(x.1,x.2.d))
 |[],vs,E,h,_=>by simp only[O8,Option.some.injEq,Prod.mk.injEq]at h;obtain⟨rfl,rfl⟩:=h;exact .nil
 |(i,x)::xs,vs,E,h,hE=>by
  unfold O8 at h
  split at h
  ·rename_i v E1 h1
   split at h
   ·rename_i vs' E2 h2
    simp only[Option.some.injEq,Prod.mk.injEq]at h;obtain⟨rfl,rfl⟩:=h
    exact .cons (AT h1 hE.app.1) (XH h2 hE.app.2)
   ·cases h
  ·cases h
theorem EN{α:Type}[Inhabited α](kk:Nat)(l:List α)(f:α->List Value)(sz:Nat)(e:TypeId){t:TypeId}{n:Nat}{xs:List (Nat×Operand)}{vs:List (Nat×XV)}{E1:List Ck}(hf: ∀x,(f x).length=sz)(h:run c.T c.N k m s=⟨k',.ops all (⟨some d,.buildSlice t n ⟨xs⟩,ty,ps,af,none⟩::rest),s',O,E⟩)(hE:A6 E)(hO:O)
  (hx:O8 s'.L xs=some (vs,E1)) (hE1:A6 E1) (hr: ∀w,(Instr.buildSlice t n (vs.map λ x=>(x.1,x.2.d)).toArray).run c.P w= .ok (.slice (some ⟨w.heap.size,0,none⟩) n n) (w.alloc (.cells (l.flatMap f).toArray e))) (hd:(Nat.blt d c.N,Nat.beq l.length n,Nat.ble n 9223372036854775807)=(true,true,true))
  (hn: ∀v,XG c B k' (.ops all rest) ⟨(kk,kn v sz l f)::s'.F,(kk,.ho (.own e sz v l.length (l.flatMap f)))::s'.H,(d,.t,.sl kk v)::s'.L⟩):XG c B k m s:=by
 simp only[Prod.mk.injEq]at hd
 have hln:=Nat.eq_of_beq_eq_true hd.2.1
 subst hln
 refine FL h hE hO λ w M hX=>?_
 have e1:(⟨xs⟩:Array (Nat×Operand))=xs.toArray:=rfl
 rw[e1]
 refine RL.buildSlice (cs:=l.flatMap f) hX.st (XH hx hE1) (G8 f sz hf l) hd.2.2 hr hd.1 λ v w' M' hS hle=>FV (hn v) ⟨hS,C0 ⟨hS.sl (i:=0) U,hf,trivial⟩ λ x hx=>(hX.f x hx).mono hle,hX.le.trans hle⟩ U
theorem O9(by':Nat){α:Type}[inh:Inhabited α]{l mm:List α}{f:α->List Value}{t e:TypeId}{x y:Operand}{i:TypeInfo}{z v vx:Value}{kk kx sz:Nat}{E1:List Ck}{g1 g2:Mem->Prop}{hg1: ∀M M',M.le M'->g1 M->g1 M'}{hg2: ∀M M',M.le M'->g2 M->g2 M'}
  (h:run c.T c.N k m s=⟨k',.ops all (⟨some d,.call ⟨.builtin .append,#[x,y],#[t,t]⟩,ty,ps,af,none⟩::rest),s',O,E⟩) (hE:A6 E) (hO:O) (hx:IS s'.L .t x y=some (.sl kk v,.sl kx vx,E1)) (hE1:A6 E1)
  (hk:(IQ s'.F kk,IQ s'.F kx,F5 s'.H kk)=(some (@Kn.mk α inh v sz l f g1 hg1),some (@Kn.mk α inh vx sz mm f g2 hg2),some (.ho (.own e sz v l.length (l.flatMap f)))))
  (ht:c.P.underlying t=some (.slice e)) (hi:c.P.info? e=some i) (hz:i.zero=some z) (hs:(i.size,z.cells.size,i.bytes,Nat.blt 0 by',Nat.blt d c.N)=(sz,sz,by',true,true)) (h1: ∀x,∀u∈f x,u.oneCell'=true) (hb:(len l+len mm)*by'<=140737488355328)
  (hn: ∀v',XG c B k' (.ops all rest) ⟨(kk,kn v' sz (l++mm) f)::s'.F,DH s'.H kk (.ho (.own e sz v' (l++mm).length ((l++mm).flatMap f))),(d,.t,.sl kk v')::s'.L⟩):XG c B k m s:=by
 simp only[Prod.mk.injEq]at hk hs
 obtain⟨hk1,hk2,hk3⟩:=hk
 refine FL h hE hO λ w M hX=>?_
 obtain⟨j,hj,hset'⟩:=GW (Hr:=c.Hr) hk3
 obtain⟨hx1,hx2⟩:=JP hx hE1
 refine RL.K6 (f:=f) (l:=l) (m:=mm) (by':=by') hX.st hj hx1 hx2 (hX.f.get hk2).sl ht hi hz hs.1 hs.2.1 h1 hs.2.2.1 hs.2.2.2.1 hb hs.2.2.2.2 (Hs':=λ v'=>HD (DH s'.H kk (.ho (.own e sz v' (l++mm).length ((l++mm).flatMap f))))++c.Hr) (λ v'=>(hset' (.ho (.own e sz v' (l++mm).length ((l++mm).flatMap f)))).symm) λ v' w' M' hS hle=>?_
 refine FV (hn v') ⟨hS,C0 ⟨?_,(hX.f.get hk1).sz,trivial⟩ λ x hx=>(hX.f x hx).mono hle,hX.le.trans hle⟩ U
 have h5:(HD (DH s'.H kk (.ho (.own e sz v' (l++mm).length ((l++mm).flatMap f))))++c.Hr)[j]? =some (.own e sz v' (l++mm).length ((l++mm).flatMap f)):=by
  rw[hset'];rw[List.getElem?_set_self (List.getElem?_eq_some_iff.1 hj).1];rfl
 exact hS.sl h5
theorem MK{α:Type}[inh:Inhabited α](kk:Nat)(a b:Int){l:List α}{f:α->List Value}{t e:TypeId}{x:Operand}{lo hi:Option Operand}{v:Value}{kx sz:Nat}{E1:List Ck}{gd:Option (Nat×Bool)}{g1:Mem->Prop}{hg1: ∀M M',M.le M'->g1 M->g1 M'}
  (h:run c.T c.N k m s=⟨k',.ops all (⟨some d,.slice t x lo hi none,ty,ps,af,none⟩::rest),s',O,E⟩) (hE:A6 E) (hO:O) (hx:BI s'.L .t x=some (.sl kx v,E1)) (hE1:A6 E1) (hk:IQ s'.F kx=some (@Kn.mk α inh v sz l f g1 hg1))
  (hlo:match lo with|some y=> ∃kd,∃E,BI s'.L .t y=some (.v (.int kd a),E)/\A6 E|none=>a=0) (hhi:match hi with|some y=> ∃kd,∃E,BI s'.L .t y=some (.v (.int kd b),E)/\A6 E|none=>b=len l)
  (ht:c.P.underlying t=some (.slice e)) (hs: ∀w,(sizeOf e).run c.P w= .ok sz w) (hr:0<=a/\a<=b/\b<=len l) (hd:Nat.blt d c.N=true) (hlh:(lo.isSome||hi.isSome)=true)
  (hn: ∀v',XG c B k' (.ops all rest) ⟨(kk,kn v' sz (Eng.sub l a b) f)::s'.F,s'.H,(d,.t,.sl kk v')::s'.L⟩):XG c B k m s:=by
 refine FL h hE hO λ w M hX=>?_
 have hK:=hX.f.get hk
 have hK1:Sl M sz l.length v (l.flatMap f):=hK.sl
 have hx':=AT hx hE1
 cases lo with
 |some y=>
  obtain⟨kd,E2,h2,hE2⟩:=hlo
  cases hi with
  |some z=>
   obtain⟨kd',E3,h3,hE3⟩:=hhi
   obtain⟨v',h4,h5⟩:=qG (P:=c.P) hK1 hK.sz ht hs a b hr
   exact RL.v .none (.qJ hx' (AT h2 hE2) (AT h3 hE3) h5) hd (FV (hn v') ⟨hX.st,C0 ⟨h4,hK.sz,trivial⟩ hX.f,hX.le⟩ U)
  |none=>
   have hb:b=len l:=hhi
   subst hb
   obtain⟨v',h4,h5⟩:=qI (P:=c.P) hK1 hK.sz ht hs a (len l) hr
   exact RL.v .none (.qL hx' (AT h2 hE2) h5) hd (FV (hn v') ⟨hX.st,C0 ⟨h4,hK.sz,trivial⟩ hX.f,hX.le⟩ U)
 |none=>
  have ha:a=0:=hlo
  subst ha
  cases hi with
  |some z=>
   obtain⟨kd',E3,h3,hE3⟩:=hhi
   obtain⟨v',h4,h5⟩:=qH (P:=c.P) hK1 hK.sz ht hs 0 b hr
   exact RL.v .none (.qK hx' (AT h3 hE3) h5) hd (FV (hn v') ⟨hX.st,C0 ⟨h4,hK.sz,trivial⟩ hX.f,hX.le⟩ U)
  |none=>cases hlh
theorem ML{α:Type}[inh:Inhabited α](kk:Nat)(l:List α)(f:α->List Value)(sz:Nat)(e:TypeId){t:TypeId}{n:Nat}{xs:List (Nat×Operand)}{vs:List (Nat×XV)}{E1:List Ck}(hf: ∀x,(f x).length=sz)(h:run c.T c.N k m s=⟨k',.ops all (⟨some d,.buildSlice t n ⟨xs⟩,ty,ps,af,none⟩::rest),s',O,E⟩)(hE:A6 E)(hO:O)
  (hx:O8 s'.L xs=some (vs,E1)) (hE1:A6 E1) (hr: ∀w,(Instr.buildSlice t n (vs.map λ x=>(x.1,x.2.d)).toArray).run c.P w= .ok (.slice (some ⟨w.heap.size,0,none⟩) n n) (w.alloc (.cells (l.flatMap f).toArray e))) (hd:(Nat.blt d c.N,Nat.beq l.length n,Nat.ble n 9223372036854775807)=(true,true,true))
  (hn: ∀v,XG c B k' (.ops all rest) ⟨s'.F,(kk,.pv e (@kn α inh v sz l f) hf)::s'.H,(d,.t,.sl kk v)::s'.L⟩):XG c B k m s:=by
 simp only[Prod.mk.injEq]at hd
 have hln:=Nat.eq_of_beq_eq_true hd.2.1
 subst hln
 refine FL h hE hO λ w M hX=>?_
 have e1:(⟨xs⟩:Array (Nat×Operand))=xs.toArray:=rfl
 rw[e1]
 exact RL.pC (cs:=l.flatMap f) hX.st (XH hx hE1) (G8 f sz hf l) hd.2.2 hr hd.1 λ v w' hS=>FV (hn v) ⟨hS,hX.f,hX.le⟩ U
theorem qM{α:Type}[inh:Inhabited α](kk t:Nat)(e:TypeId)(sz:Nat)(f:α->List Value)(hf: ∀x,(f x).length=sz)(hl:B6 s.L t=some (.t,.v (.slice none 0 0)))
  (hn:XG c B k m ⟨s.F,(kk,.pv e (@kn α inh (.slice none 0 0) sz [] f) hf)::s.H,(t,.t,.sl kk (.slice none 0 0))::s.L⟩):XG c B k m s:=by
 intro a w ⟨h1,M,h2⟩
 refine hn a w ⟨⟨h1.size,h1.CD,λ t' g v ht=>?_⟩,M,h2.st.cK e sz,h2.f,h2.le⟩
 have hl':=FT hl
 by_cases he:t=t'
 ·subst he
  have ht':look ((t,true,Value.slice none 0 0)::s.L.d) t=some (g,v):=ht
  rw[JH]at ht';cases ht'
  exact h1.val _ _ _ hl'
 ·have ht':look ((t,true,Value.slice none 0 0)::s.L.d) t'=some (g,v):=ht
  rw[HZ he]at ht'
  exact h1.val _ _ _ ht'
theorem KB(by':Nat){α:Type}[inh:Inhabited α]{l mm:List α}{f:α->List Value}{t e:TypeId}{x y:Operand}{i:TypeInfo}{z v vx:Value}{kk kx sz:Nat}{E1:List Ck}{hf: ∀x,(f x).length=sz}{g2:Mem->Prop}{hg2: ∀M M',M.le M'->g2 M->g2 M'}
  (h:run c.T c.N k m s=⟨k',.ops all (⟨some d,.call ⟨.builtin .append,#[x,y],#[t,t]⟩,ty,ps,af,none⟩::rest),s',O,E⟩) (hE:A6 E) (hO:O) (hx:IS s'.L .t x y=some (.sl kk v,.sl kx vx,E1)) (hE1:A6 E1)
  (hk:(IQ s'.F kx,F5 s'.H kk)=(some (@Kn.mk α inh vx sz mm f g2 hg2),some (.pv e (@kn α inh v sz l f) hf)))
  (ht:c.P.underlying t=some (.slice e)) (hi:c.P.info? e=some i) (hz:i.zero=some z) (hs:(i.size,z.cells.size,i.bytes,Nat.blt 0 by',Nat.blt d c.N)=(sz,sz,by',true,true)) (h1: ∀x,∀u∈f x,u.oneCell'=true) (hb:(len l+len mm)*by'<=140737488355328)
  (hn: ∀v',XG c B k' (.ops all rest) ⟨s'.F,DH s'.H kk (.pv e (@kn α inh v' sz (l++mm) f) hf),(d,.t,.sl kk v')::s'.L⟩):XG c B k m s:=by
 simp only[Prod.mk.injEq]at hs hk
 refine FL h hE hO λ w M hX=>?_
 obtain⟨j,hj,hset'⟩:=GW (Hr:=c.Hr) hk.2
 obtain⟨hx1,hx2⟩:=JP hx hE1
 exact RL.pD (f:=f) (l:=l) (m:=mm) (by':=by') hX.st hj hx1 hx2 (hX.f.get hk.1).sl ht hi hz hs.1 hs.2.1 h1 hs.2.2.1 hs.2.2.2.1 hb hs.2.2.2.2 (Hs':=λ v'=>HD (DH s'.H kk (.pv e (@kn α inh v' sz (l++mm) f) hf))++c.Hr) (λ v'=>(hset' (.pv e (@kn α inh v' sz (l++mm) f) hf)).symm) λ v' w' hS=>FV (hn v') ⟨hS,hX.f,hX.le⟩ U
theorem FW{α:Type}[inh:Inhabited α](kk:Nat){e:TypeId}{v:Value}{sz:Nat}{l:List α}{f:α->List Value}{hl: ∀x,(f x).length=sz}{H':List (Nat×HX)}(hk:JT s.H kk=some (.pv e (@kn α inh v sz l f) hl,H'))(hn:XG c B k m ⟨(kk,@kn α inh v sz l f)::s.F,H',s.L⟩):XG c B k m s:=by
 intro a w ⟨h1,M,h2⟩
 have hS:=h2.st.perm (Hs':=HX.d (.pv e (@kn α inh v sz l f) hl)::(HD H'++c.Hr)) (by have:=(TG hk).append_right c.Hr;exact this)
 have hi:(HX.d (.pv e (@kn α inh v sz l f) hl)::(HD H'++c.Hr))[0]? =some (.priv e sz v l.length (l.flatMap f)):=rfl
 obtain⟨M',hS',hle⟩:=hS.show hi
 refine hn a w ⟨h1,M',hS'.erase 0 U,C0 ⟨hS'.sl (i:=0) U,hl,trivial⟩ λ x hx=>(h2.f x hx).mono hle,h2.le.trans hle⟩
theorem OA{α:Type}[inh:Inhabited α](y':α){l:List α}{f:α->List Value}{t e:TypeId}{x y:Operand}{v:Value}{kk sz j n:Nat}{i:Int}{E1:List Ck}{u:XV}{hf: ∀x,(f x).length=sz}
  (h:run c.T c.N k m s=⟨k',.ops all (⟨none,.store t x y,ty,ps,af,none⟩::rest),s',O,E⟩) (hE:A6 E) (hO:O) (hx:IS s'.L .t x y=some (.el kk v sz i j,u,E1)) (hE1:A6 E1) (hk:F5 s'.H kk=some (.pv e (@kn α inh v sz l f) hf))
  (ht: ∀w,(sizeOf t).run c.P w= .ok n w) (hu:u.d.cells.toList.length=n) (hc:(Nat.blt 0 n,Nat.ble (j+n) sz,u.d.cells.toList.all (·.oneCell'))=(true,true,true)) (hy:F4 (f (at' l i)) j u.d.cells.toList=f y') (hr:0<=i/\i<len l)
  (hn: ∀l',l'=l.set i.toNat y'->XG c B k' (.ops all rest) ⟨s'.F,DH s'.H kk (.pv e (@kn α inh v sz l' f) hf),s'.L⟩):XG c B k m s:=by
 simp only[Prod.mk.injEq]at hc
 refine FL h hE hO λ w M hX=>?_
 obtain⟨q,hq,hset'⟩:=GW (Hr:=c.Hr) hk
 obtain⟨hx1,hx2⟩:=JP hx hE1
 obtain⟨hlt,_⟩:=G7 l hr.1 hr.2
 have hjn:=Nat.le_of_ble_eq_true hc.2.1
 have hfit:i.toNat*sz+j+n<=(l.flatMap f).length:=by
  rw[G8 f sz hf]
  have:=Nat.mul_le_mul_right sz (show i.toNat+1<=l.length from hlt)
  rw[Nat.add_mul]at this;omega
 refine RL.pE (P:=c.P) (o:=i.toNat*sz+j) (xs':=(l.set i.toNat y').flatMap f) (Hs':=HD (DH s'.H kk (.pv e (@kn α inh v sz (l.set i.toNat y') f) hf))++c.Hr) hX.st hq (by have:=hx1;simp only[XV.d,XV.d1,XV.d0,Nat.add_assoc]at this ⊢;exact this) hx2 ht hu hc.1 hfit hc.2.2 (pF hf l i.toNat y' j _ hlt hy (by rw[hu];exact hjn)) ?_ λ w' hS=>FV (hn _ U) ⟨hS,hX.f,hX.le⟩ U
 rw[hset']
 show(HD s'.H++c.Hr).set q (.priv e sz v l.length ((l.set i.toNat y').flatMap f))=(HD s'.H++c.Hr).set q (.priv e sz v (l.set i.toNat y').length ((l.set i.toNat y').flatMap f))
 rw[List.length_set]
def OB(J:XS->Prop):List Fr->Nat->Option (List Fr×Code×List Fr)
 |[],_=>none
 |x::k,0=>match x with
  | .seq y=>some (.loop J::k,y,k)
  |_=>none
 |x::k,n+1=>match OB J k n with
  |some (a,y,b)=>some (x::a,y,b)
  |none=>none
theorem XI{J:XS->Prop}: ∀ {k:List Fr} {n:Nat} {a b:List Fr} {y:Code},OB J k n=some (a,y,b)-> ∃p,k=p++ .seq y::b/\a=p++ .loop J::b
 |[],_,_,_,_,h=>by cases h
 |x::k,0,a,b,y',h=>by
  simp only[OB]at h
  split at h
  ·simp only[Option.some.injEq,Prod.mk.injEq]at h;obtain⟨rfl,rfl,rfl⟩:=h;exact⟨[],rfl,rfl⟩
  ·cases h
 |x::k,n+1,a,b,y',h=>by
  simp only[OB]at h
  split at h
  ·rename_i a2 y2 b2 h2
   simp only[Option.some.injEq,Prod.mk.injEq]at h;obtain⟨rfl,rfl,rfl⟩:=h
   obtain⟨p,h3,h4⟩:=XI h2
   exact⟨x::p,by rw[h3];rfl,by rw[h4];rfl⟩
  ·cases h
theorem OC{n n':Act->World->Prop}{Q Q':Exit->Act->World->Prop}(hn: ∀a w,n a w->n' a w)(hq: ∀e a w,Q e a w->Q' e a w)(e:Exit)(a:Act)(w:World)(h:Exit.then n Q e a w):Exit.then n' Q' e a w:=by
 cases e<;>first|exact hn _ _ h|exact hq _ _ _ h
theorem JU{K K':List Fr}(h: ∀e a w,post c B K e a w->post c B K' e a w): ∀(p:List Fr) (e:Exit) (a:Act) (w:World),post c B (p++K) e a w->post c B (p++K') e a w
 |[],e,a,w,q=>h e a w q
 | .seq y::p,e,a,w,q=>OC (λ _ _ h1=>c.W.mono h1 (JU h p)) (JU h p) e a w q
 | .block id::p,e,a,w,q=>by
  cases e with
  |exit id'=>
   show if id'=id then _ else _
   have q':if id'=id then _ else _:=q
   split<;>rename_i hid
   ·rw[if_pos hid]at q';exact JU h p _ a w q'
   ·rw[if_neg hid]at q';exact JU h p _ a w q'
  |_=>exact JU h p _ a w q
 | .scope::p,e,a,w,q=>by cases e<;>first|exact q.elim|exact JU h p _ a w q
 | .loop J::p,e,a,w,q=>OC (λ _ _ h1=>h1) (JU h p) e a w q
theorem HH(n:Nat)(J:XS->Prop){b:Bool}{x y z:Code}{k2 q:List Fr}(h:run c.T c.N k m s=⟨k',.br b x y,s',O,E⟩)(hE:A6 E)(hO:O)(hk:OB J k' n=some (k2,z,q))
  (ht:b=true->XG c B k2 (.code x) s') (hf:b=false->XG c B k2 (.code y) s') (h2: ∀s',J s'->XG c B q (.code z) s'):XG c B k m s:=by
 obtain⟨p,rfl,rfl⟩:=XI hk
 have hm: ∀e a w,post c B (.loop J::q) e a w->post c B (.seq z::q) e a w:=λ e a w h=>OC (λ a w ⟨s',hJ,hs⟩=>h2 s' hJ a w hs) (λ _ _ _ h=>h) e a w h
 refine AB h hE hO (λ hb a w hs=>?_) (λ hb a w hs=>?_)
 ·exact c.W.mono (ht hb a w hs) (JU hm p)
 ·exact c.W.mono (hf hb a w hs) (JU hm p)
theorem BF{J:XS->Prop}(s2:XS)(h:run c.T c.N k m s=⟨.loop J::k',.next,s',O,E⟩)(hE:A6 E)(hO:O)(h0:(⟨IU s2.F s'.F,IV s2.H s'.H,FK (keys s2.L) s'.L⟩:XS)=s2)(hJ:J s2):XG c B k m s:=
 CH h hE hO λ a w hs=>⟨s2,hJ,hs.sub (XS.O6 h0)⟩
end
end Go.Eng
namespace Go.Eng
open Go.RowKit
def dN{γ:Type}(w:World)(M:Mem)(u:γ->Value)(pu:γ->Prop)(Fg:γ->List (Nat×Kn)):Ending->World->Prop:=
 λ e w'=> ∃g M',e= .returned (u g)/\pu g/\Grow w M w' M'/\B7 M' (Fg g)
def CX{γ:Type}(w0:World)(M0 M:Mem)(Rs:List HO)(u:γ->Value)(pu:γ->Prop)(Fg:γ->List (Nat×Kn))(Hg:γ->List HO):Ending->World->Prop:=
 λ e w'=> ∃g M',e= .returned (u g)/\pu g/\M.le M'/\St w0 M0 w' M' (Hg g++Rs)/\B7 M' (Fg g)
def OD:List Nat->List (Nat×Kn)->List (Nat×Kn)
 |k::ks,(_,x)::F=>(k,x)::OD ks F
 |_,_=>[]
theorem TJ{M:Mem}: ∀ {ks:List Nat} {F:List (Nat×Kn)},B7 M F->B7 M (OD ks F)
 |[],_,_=>λ x hx=>by cases hx
 |_::_,[],_=>λ x hx=>by cases hx
 |k::ks,(i,x)::F,h=>λ y hy=>by
  rcases List.mem_cons.1 hy with rfl|hy
  ·exact h (i,x) (.head _)
  ·exact TJ (λ z hz=>h z (.tail _ hz)) y hy
theorem B7.app {M:Mem}{F G:List (Nat×Kn)}(h:B7 M F)(k:B7 M G):B7 M (F++G):=λ x hx=>by
 rcases List.mem_append.1 hx with hx|hx
 ·exact h x hx
 ·exact k x hx
theorem B7.mono {M M':Mem}{F:List (Nat×Kn)}(h:B7 M F)(hm:M.le M'):B7 M' F:=λ x hx=>(h x hx).mono hm
def IW:List Nat->List (Nat×HX)->Option (List (Nat×HX)×List (Nat×HX))
 |[],H=>some ([],H)
 |k::ks,H=>match JT H k with
  |some (x,H')=>match IW ks H' with
   |some (A,R)=>some ((k,x)::A,R)
   |none=>none
  |none=>none
theorem LA: ∀ {ks:List Nat} {H A R:List (Nat×HX)},IW ks H=some (A,R)->(HD A++HD R).Perm (HD H)
 |[],H,A,R,h=>by simp only[IW,Option.some.injEq,Prod.mk.injEq]at h;obtain⟨rfl,rfl⟩:=h;exact .refl _
 |k::ks,H,A,R,h=>by
  unfold IW at h
  split at h
  ·rename_i x H' h1
   split at h
   ·rename_i A' R' h2
    simp only[Option.some.injEq,Prod.mk.injEq]at h;obtain⟨rfl,rfl⟩:=h
    exact((LA h2).cons x.d).trans (TG h1)
   ·cases h
  ·cases h
def XJ(dd:Option Tmp)(v:XV)(L:XE):XE:=match dd with
 |some d=>(d,.t,v)::L
 |none=>L
def dO(dd:Option Tmp)(N:Nat):Bool:=match dd with
 |some d=>Nat.blt d N
 |none=>true
section
variable {c:Cx} {B:Exit->Act->World->Prop} {k k':List Fr} {m:Md} {s s':XS} {O:Prop} {E:List Ck} {all:Array Oper} {rest:List Oper} {d:Nat} {ty:TypeId} {ps:String} {af:Array Edge}
theorem D4.sl {F:List (Nat×Kn)}{H:List (Nat×HX)}{w:World}{M:Mem}(h:D4 c F H w M)(k:Nat){α:Type}{inh:Inhabited α}{v:Value}{sz:Nat}{l:List α}{f:α->List Value}{g:Mem->Prop}{hg: ∀M M',M.le M'->g M->g M'}(hk:IQ F k=some (@Kn.mk α inh v sz l f g hg)):Sl M sz l.length v (l.flatMap f):=(h.f.get hk).sl
def callee(L:XE):Operand->Option (FuncId×List Value×List Value×List Ck)
 | .func f=>some (f,[],[],[])
 |x=>match BI L .t x with
  |some (.v (.func (.func f) ⟨a⟩ ⟨b⟩),E)=>some (f,a,b,E)
  |_=>none
theorem XK{P:Program}{ops:Array Oper}{Q:Exit->Act->World->Prop}{N:Nat}{L:XE}{w:World}{xf:Operand}{f:FuncId}{a b:List Value}{E1:List Ck}{xs:List Operand}{vs:List Value}{tys:Array TypeId}{R:Ending->World->Prop}{dd:Option Tmp}
  (ct:CT P f) (hf:callee L xf=some (f,a,b,E1)) (hE1:A6 E1) (hx:DE L.d true xs vs) (hc:Calls P f (a++vs++b).toArray w R)
  (hr: ∀v w',R (.returned v) w'-> ∀ac,AF ac N L.d->wpList P ops Q rest (ac.put dd v) w') (hp: ∀ch w',R (.panicked ch) w'-> ∀ac,AF ac N L.d->Q (.panic ch) ac w') (ho: ∀w',¬R .outgrown w'):
  RL P ops Q N (⟨dd,.call ⟨.value xf,⟨xs⟩,tys⟩,ty,ps,af,none⟩::rest) L.d w:=by
 intro ac hs
 refine wpList_plain U λ K hK=>?_
 have key:(execOp ac.eval ⟨dd,.call ⟨.value xf,⟨xs⟩,tys⟩,ty,ps,af,none⟩).run P w= .ok (.enter f (a++vs++b).toArray) w:=by
  have e1:(⟨xs⟩:Array Operand)=xs.toArray:=rfl
  rw[e1]
  cases xf with
  |func f'=>
   simp only[callee,Option.some.injEq,Prod.mk.injEq]at hf
   obtain⟨rfl,rfl,rfl,rfl⟩:=hf
   simpa using L4 ct hx hs U
  |tmp t=>
   simp only[callee]at hf
   split at hf
   ·rename_i f' a' b' E' h1
    simp only[Option.some.injEq,Prod.mk.injEq]at hf
    obtain⟨rfl,rfl,rfl,rfl⟩:=hf
    exact VZ (fs:=a') (cs:=b') ct (AT h1 hE1) hx hs U
   ·cases hf
  |const v=>
   simp only[callee]at hf
   split at hf
   ·rename_i f' a' b' E' h1
    simp only[Option.some.injEq,Prod.mk.injEq]at hf
    obtain⟨rfl,rfl,rfl,rfl⟩:=hf
    exact VZ (fs:=a') (cs:=b') ct (AT h1 hE1) hx hs U
   ·cases hf
  |global g=>
   simp only[callee]at hf
   split at hf
   ·rename_i f' a' b' E' h1
    simp only[Option.some.injEq,Prod.mk.injEq]at hf
    obtain⟨rfl,rfl,rfl,rfl⟩:=hf
    exact VZ (fs:=a') (cs:=b') ct (AT h1 hE1) hx hs U
   ·cases hf
 simp only[Oper.wp,key,Oper.upon_enter]
 refine hc.mono λ e w' he=>?_
 cases e with
 |returned v=>exact hK _ _ (hr v w' he ac hs)
 |panicked ch=>exact hp ch w' he ac hs
 |outgrown=>exact absurd he (ho w')
theorem QH{N:Nat}{L:XE}{a:Act}(hs:AF a N L.d){d:Nat}(hd:Nat.blt d N=true)(v:XV):AF (a.put (some d) v.d) N (XE.d ((d,.t,v)::L)):=hs.put hd true v.d
theorem HI{γ:Type}(ux:γ->XV)(ks:List Nat){u:γ->Value}{pu:γ->Prop}{Fg:γ->List (Nat×Kn)}{xf:Operand}{f:FuncId}{fa fb:List Value}{E1 E2:List Ck}{xs:List Operand}{tys:Array TypeId}{vs:List XV}
  (h:run c.T c.N k m s=⟨k',.ops all (⟨some d,.call ⟨.value xf,⟨xs⟩,tys⟩,ty,ps,af,none⟩::rest),s',O,E⟩) (hE:A6 E) (hO:O) (hf:callee s'.L xf=some (f,fa,fb,E1)) (ct:CT c.P f) (hd:Nat.blt d c.N=true) (hx:HG s'.L .t xs=some (vs,E2)) (hE1:A6 (E1++E2))
  (hc: ∀w M,D4 c s'.F s'.H w M->Calls c.P f (fa++vs.map XV.d++fb).toArray w (dN w M u pu Fg)) (hu: ∀g,(ux g).d=u g)
  (hn: ∀g,pu g->XG c B k' (.ops all rest) ⟨OD ks (Fg g)++s'.F,s'.H,(d,.t,ux g)::s'.L⟩):XG c B k m s:=by
 refine FL h hE hO λ w M hX=>?_
 refine XK ct hf hE1.app.1 (KA hx hE1.app.2) (hc w M hX) ?_ (λ ch w' hr=>?_) (λ w' hr=>?_)
 ·rintro v w' ⟨g,M',he,hp,hg,hF⟩ ac hs
  cases he
  have:=QH hs hd (ux g)
  rw[hu]at this
  exact c.W.back (hn g hp _ w' ⟨this,M',hX.st.grow hg,(TJ hF).app (hX.f.mono (hg.le hX.st.sat)),hX.le.trans (hg.le hX.st.sat)⟩)
 ·obtain⟨g,M',he,_⟩:=hr;cases he
 ·obtain⟨g,M',he,_⟩:=hr;cases he
theorem B9{γ:Type}(ids:List Nat)(ux:γ->XV)(ks:List Nat)(Hx:γ->List (Nat×HX)){u:γ->Value}{pu:γ->Prop}{Fg:γ->List (Nat×Kn)}{Hg:γ->List HO}{xf:Operand}{f:FuncId}{fa fb:List Value}{E1 E2:List Ck}{xs:List Operand}{tys:Array TypeId}{vs:List XV}{A R:List (Nat×HX)}{dd:Option Tmp}
  (h:run c.T c.N k m s=⟨k',.ops all (⟨dd,.call ⟨.value xf,⟨xs⟩,tys⟩,ty,ps,af,none⟩::rest),s',O,E⟩) (hE:A6 E) (hO:O) (hf:callee s'.L xf=some (f,fa,fb,E1)) (ct:CT c.P f) (hd:dO dd c.N=true) (hx:HG s'.L .t xs=some (vs,E2)) (hE1:A6 (E1++E2))
  (hA:IW ids s'.H=some (A,R)) (hc: ∀w M,St c.w0 c.M0 w M (HD A++(HD R++c.Hr))->B7 M s'.F->Calls c.P f (fa++vs.map XV.d++fb).toArray w (CX c.w0 c.M0 M (HD R++c.Hr) u pu Fg Hg)) (hu: ∀g,(ux g).d=u g) (hH: ∀g,HD (Hx g)=Hg g)
  (hn: ∀g,pu g->XG c B k' (.ops all rest) ⟨OD ks (Fg g)++s'.F,Hx g++R,XJ dd (ux g) s'.L⟩):XG c B k m s:=by
 refine FL h hE hO λ w M hX=>?_
 have hSt:St c.w0 c.M0 w M (HD A++(HD R++c.Hr)):=hX.st.perm (by rw[<-List.append_assoc];exact(LA hA).append_right _)
 refine XK ct hf hE1.app.1 (KA hx hE1.app.2) (hc w M hSt hX.f) ?_ (λ ch w' hr=>?_) (λ w' hr=>?_)
 ·rintro v w' ⟨g,M',he,hp,hle,hS,hF⟩ ac hs
  cases he
  have hs2:AF (ac.put dd (u g)) c.N (XE.d (XJ dd (ux g) s'.L)):=by
   cases dd with
   |some d=>have:=QH hs hd (ux g);rw[hu]at this;exact this
   |none=>exact hs
  refine c.W.back (hn g hp _ w' ⟨hs2,M',?_,(TJ hF).app (hX.f.mono hle),hX.le.trans hle⟩)
  have e:HD (Hx g++R)++c.Hr=Hg g++(HD R++c.Hr):=by rw[<-hH];unfold HD;rw[List.map_append,List.append_assoc]
  rw[e];exact hS
 ·obtain⟨g,M',he,_⟩:=hr;cases he
 ·obtain⟨g,M',he,_⟩:=hr;cases he
theorem OE{b:Bool}(hb:b=true){E:List Ck}(h:E=[.b true b]):A6 E:=by
 subst h;intro c hc;rw[List.mem_singleton.1 hc];exact λ _=>hb
theorem IX(vd:XV){op:Op}{gd:Option (Nat×Bool)}{b:Bool}(h:run c.T c.N k m s=⟨k',.ops all (⟨some d,op,ty,ps,af,gd⟩::rest),s',O,E⟩)(hE:A6 E)(hO:O)(hg:(GY all s'.L gd,Nat.blt d c.N)=(some (.g b),true))
  (h1:b=true->XG c B k' (.ops all (⟨some d,op,ty,ps,af,none⟩::rest)) s') (h2:b=false->XG c B k' (.ops all rest) ⟨s'.F,s'.H,(d,.g b,vd)::s'.L⟩):XG c B k m s:=by
 simp only[Prod.mk.injEq]at hg
 refine CH h hE hO λ a w ⟨hs,M,hX⟩=>?_
 have hwt:=CG.wanted (o:=⟨some d,op,ty,ps,af,gd⟩) (JS hg.1) hs
 have hbd:(Gd.g b).d=b:=rfl
 rw[hbd]at hwt
 cases b with
 |true=>exact c.W.want hwt (h1 U a w ⟨hs,M,hX⟩)
 |false=>
  refine c.W.one ?_
  unfold wpList
  rw[hwt]
  refine c.W.back (h2 U _ w ⟨?_,M,hX⟩)
  exact hs.put hg.2 false vd.d
def LB(
     T:TT) (H:List (Nat×HX)) (L:XE):List ResultVar->Option (List XV×List Ck)
 |[]=>some ([],[])
 |r::rs=>match LB T H L rs with
  |some (vs,E)=>match r with
   | .tmp t=>match B6 L t with
    |some (.t,v)=>some (v::vs,E)
    |_=>none
   | .cell t ty=>match B6 L t with
    |some (.t,.bx k b o)=>match T5 T [] H ty (.bx k b o)with
     |some (v,[],E')=>some (v::vs,E'++E)
     |_=>none
    |_=>none
  |none=>none
def MM:List XV->Value
 |[v]=>v.d
 |vs=>.tuple (vs.map XV.d).toArray
theorem XL{P:Program}{T:TT}(hT:DI P T){H:List (Nat×HX)}{Hr:List HO}{w0 w:World}{M0 M:Mem}{L:XE}{a:Act}{N:Nat}(hS:St w0 M0 w M (HD H++Hr))(hs:AF a N L.d): ∀ {rs:List ResultVar} {vs:List XV} {E:List Ck},LB T H L rs=some (vs,E)->A6 E->(rs.mapM (I0 a.tmps)).run P w= .ok (vs.map XV.d) w
 |[],vs,E,h,_=>by simp only[LB,Option.some.injEq,Prod.mk.injEq]at h;obtain⟨rfl,rfl⟩:=h;rfl
 |r::rs,vs,E,h,hE=>by
  unfold LB at h
  split at h
  ·rename_i vs' E' h1
   have fin: ∀(v:XV),(I0 a.tmps r).run P w= .ok v.d w->A6 E'->((r::rs).mapM (I0 a.tmps)).run P w= .ok ((v::vs').map XV.d) w:=λ v hv hE'=>by
    simp only[List.mapM_cons,Sem.run_bind,hv,Result.andThen_ok,XL hT hS hs h1 hE',Sem.run_pure,List.map_cons]
   split at h
   ·split at h
    ·rename_i t v hl
     simp only[Option.some.injEq,Prod.mk.injEq]at h;obtain⟨rfl,rfl⟩:=h
     exact fin _ (by simp only[I0,hs.get (FT hl)];rfl) hE
    ·cases h
   ·split at h
    ·rename_i t ty x2 k b o hl
     split at h
     ·rename_i v E2 h2
      simp only[Option.some.injEq,Prod.mk.injEq]at h;obtain⟨rfl,rfl⟩:=h
      refine fin _ ?_ hE.app.2
      have hp:PV P (· =w) L.d true ⟨some 0,.load ty (.tmp t),0,"",#[],none⟩ v.d:=cM (W:=.t) (gd:=none) hT (F:=[]) (Hr:=Hr) AA hS BG h2 hE.app.1 (.t (FT hl)) (λ _=>trivial)
      have h3:=hp a N hs U w U
      have h4:=hs.get (FT hl)
      have h5:a.tmps.getD t undef= .pointer (some ⟨b,o,none⟩):=h4
      have h6:a.eval (.tmp t)= .pointer (some ⟨b,o,none⟩):=h5
      simp only[execOp,h6,Sem.run_bind,Instr.loadAt,Instr.sureAddr,Sem.run_pure,Result.andThen_ok]at h3
      simp only[I0,h5,asAddr,Sem.run_bind,Sem.run_pure,Result.andThen_ok]
      cases hl2:(loadVar ty ⟨b,o,none⟩).run P w with
      |ok x w'=>rw[hl2]at h3;simp only[Result.andThen_ok,Result.ok.injEq,Next.value.injEq]at h3;obtain⟨rfl,rfl⟩:=h3;rfl
      |halt x w'=>rw[hl2]at h3;cases h3
     ·cases h
    ·cases h
  ·cases h
theorem AH{fn:Func}{R:Ending->World->Prop}{rs:List ResultVar}{vs:List XV}{E2:List Ck}(hB:Ends c.P fn R B)(hr:fn.results=⟨rs⟩)(h:run c.T c.N k m s=⟨[],.ret,s',O,E⟩)(hE:A6 E)(hO:O)(hl:LB c.T s'.H s'.L rs=some (vs,E2))(hE2:A6 E2)(hR: ∀w M,D4 c s'.F s'.H w M->R (.returned (MM vs)) w):XG c B k m s:=
 CH h hE hO λ a w ⟨h1,M,h2⟩=>hB.all _ _ _ (bodyPost_ret (v:=MM vs) (by
  rw[SM,hr]
  have h3:=XL c.hT h2.st h1 hl hE2
  have h4:((⟨rs⟩:Array ResultVar).mapM (I0 a.tmps)).run c.P w= .ok (vs.map XV.d).toArray w:=by
   rw[Array.mapM_eq_mapM_toList]
   refine(Sem.run_bind' c.P _ _ w).trans ?_
   rw[h3];rfl
  rw[Sem.run_bind,h4]
  simp only[Result.andThen_ok,Sem.run_pure]
  congr 1
  match vs with
  |[]=>rfl
  |[v]=>rfl
  |_::_::_=>simp[MM]) h1.CD (hR w M h2))
theorem QI{fn:Func}{R:Ending->World->Prop}(hB:Ends c.P fn R B)(hr:fn.results= #[])(h:run c.T c.N k m s=⟨[],.next,s',O,E⟩)(hE:A6 E)(hO:O)(hR: ∀w M,D4 c s'.F s'.H w M->R (.returned (.tuple #[])) w):XG c B k m s:=
 CH h hE hO λ a w ⟨h1,M,h2⟩=>hB.e0 hr (hR w M h2) a h1
def XQ(c:Cx)(B:Exit->Act->World->Prop)(k:List Fr)(all:Array Oper)(l:List Oper)(s:XS):Prop:= ∀w M,D4 c s.F s.H w M->RQ c.P all (λ w'=>Ext w w') c.N (λ a=> ∀w',St c.w0 c.M0 w' M (HD s.H++c.Hr)->post c B k .normal a w') l s.L.d
theorem LC{id:Nat}{l:List Oper}(h:run c.T c.N k m s=⟨k',.code (.region id ⟨l⟩ true),s',O,E⟩)(hE:A6 E)(hO:O)(hm:c.P.follows .mixedOrders=true)(hB:Region.lexB .any l.toArray=true)(hn:XQ c B k' l.toArray l s')(hpl:c.W.plain:=by exact True.intro):XG c B k m s:=
 CH h hE hO λ a w ⟨h1,M,h2⟩=>c.W.draw hpl (CW.SP h2.st hm hB (hn w M h2) a h1)
structure QR:Type where
 l:List Oper
 L:XE
 O:Prop
 E:List Ck
def QJ(W:Gd):List Prop->Prop->(Prop->QR)->QR
 |[],O,K=>K O
 |p::ps,O,K=>match W with
  | .t=>QJ W ps (p/\O) K
  | .g b=>QJ W ps ((b=false\/p)/\O) K
theorem TL{W:Gd}{K:Prop->QR}: ∀ {ps:List Prop} {O:Prop},∃O',QJ W ps O K=K O'/\(O'->(W.d=true->GF ps)/\O)
 |[],O=>⟨O,rfl,λ h=>⟨λ _=>trivial,h⟩⟩
 |p::ps,O=>by
  unfold QJ
  cases W with
  |t=>
   obtain⟨O',h1,h2⟩:=TL (W:=.t) (K:=K) (ps:=ps) (O:=p/\O)
   exact⟨O',h1,λ h=>⟨λ hW=>⟨(h2 h).2.1,(h2 h).1 hW⟩,(h2 h).2.2⟩⟩
  |g b=>
   obtain⟨O',h1,h2⟩:=TL (W:=.g b) (K:=K) (ps:=ps) (O:=(b=false\/p)/\O)
   exact⟨O',h1,λ h=>⟨λ hW=>⟨(h2 h).2.1.resolve_left (by rw[show b=true from hW];decide),(h2 h).1 hW⟩,(h2 h).2.2⟩⟩
def HJ(
     T:TT) (N:Nat) (F:List (Nat×Kn)) (H:List (Nat×HX)) (all:Array Oper):List Oper->XE->Prop->List Ck->QR
 |[],L,O,E=>⟨[],L,O,E⟩
 |⟨dst,op,ty,ps,af,gd⟩::rest,L,O,E=>match dst with
  |some d=>match GY all L gd with
   |some W=>match O0 T F H L W op with
    |some (v,p,E')=>match Nat.blt d N with
     |true=>QJ W p O λ O'=>HJ T N F H all rest ((d,W,v)::L) O' (E'++E)
     |false=>⟨⟨dst,op,ty,ps,af,gd⟩::rest,L,O,E⟩
    |none=>⟨⟨dst,op,ty,ps,af,gd⟩::rest,L,O,E⟩
   |none=>⟨⟨dst,op,ty,ps,af,gd⟩::rest,L,O,E⟩
  |none=>⟨⟨dst,op,ty,ps,af,gd⟩::rest,L,O,E⟩
theorem TM{F:List (Nat×Kn)}{H:List (Nat×HX)}: ∀ {l:List Oper} {L:XE} {O:Prop} {E:List Ck},let t:=HJ c.T c.N F H all l L O E;t.O->A6 t.E->XQ c B k all t.l ⟨F,H,t.L⟩->O/\A6 E/\XQ c B k all l ⟨F,H,L⟩
 |[],L,O,E=>λ h1 h2 h3=>⟨h1,h2,h3⟩
 |⟨dst,op,ty,ps,af,gd⟩::rest,L,O,E=>by
  intro t h1 h2 h3
  have ht:t=HJ c.T c.N F H all (⟨dst,op,ty,ps,af,gd⟩::rest) L O E:=rfl
  unfold HJ at ht
  split at ht
  ·rename_i d
   split at ht
   ·rename_i W hW
    split at ht
    ·rename_i v p E' hv
     split at ht
     ·rename_i hd
      obtain⟨O',hi,hO'⟩:=TL (W:=W) (K:=λ O'=>HJ c.T c.N F H all rest ((d,W,v)::L) O' (E'++E)) (ps:=p) (O:=O)
      rw[ht,hi]at h1 h2 h3
      obtain⟨r1,r2,r3⟩:=TM h1 h2 h3
      obtain⟨hp,hO2⟩:=hO' r1
      refine⟨hO2,(A6.app r2).2,λ w M hX=>?_⟩
      exact RQ.v (JS hW) (Q4 c.hT hX.f hX.st (λ _ h=>h) hv (A6.app r2).1 hp) hd (r3 w M hX)
     ·rw[ht]at h1 h2 h3;exact⟨h1,h2,h3⟩
    ·rw[ht]at h1 h2 h3;exact⟨h1,h2,h3⟩
   ·rw[ht]at h1 h2 h3;exact⟨h1,h2,h3⟩
  ·rw[ht]at h1 h2 h3;exact⟨h1,h2,h3⟩
theorem LD{l:List Oper}{F:List (Nat×Kn)}{H:List (Nat×HX)}{L L':XE}(h:HJ c.T c.N F H all l L ((0:Int)=0) []=⟨[],L',O,E⟩)(hE:A6 E)(hO:O)(hn:XG c B k .next ⟨F,H,L'⟩):XQ c B k all l ⟨F,H,L⟩:=by
 have:=TM (c:=c) (B:=B) (k:=k) (all:=all) (F:=F) (H:=H) (l:=l) (L:=L) (O:=(0:Int)=0) (E:=[])
 rw[h]at this
 exact(this hO hE λ w M hX=>RQ.nil λ a hs w' hS=>hn a w' ⟨hs,M,hS,hX.f,hX.le⟩).2.2
theorem LF{l:List Oper}{F:List (Nat×Kn)}{H:List (Nat×HX)}{L L':XE}{f:FuncId}{xs:List Operand}{tys:Array TypeId}{gd:Option (Nat×Bool)}{W:Gd}{vs:List XV}{E2:List Ck}{u:Value}{v:XV}
  (h:HJ c.T c.N F H all l L ((0:Int)=0) []=⟨⟨some d,.call ⟨.value (.func f),⟨xs⟩,tys⟩,ty,ps,af,gd⟩::rest,L',O,E⟩) (hE:A6 E) (hO:O) (ct:CT c.P f) (hg:(GY all L' gd,Nat.blt d c.N)=(some W,true)) (hx:HG L' W xs=some (vs,E2)) (hE2:A6 E2)
  (hc:W.d=true-> ∀w M,D4 c F H w M->Calls c.P f (vs.map XV.d).toArray w (λ e w'=>e= .returned u/\Ext w w')) (hv:vx u=some v) (hn:XQ c B k all rest ⟨F,H,(d,W,v)::L'⟩):XQ c B k all l ⟨F,H,L⟩:=by
 simp only[Prod.mk.injEq]at hg
 have:=TM (c:=c) (B:=B) (k:=k) (all:=all) (F:=F) (H:=H) (l:=l) (L:=L) (O:=(0:Int)=0) (E:=[])
 rw[h]at this
 refine(this hO hE λ w M hX=>?_).2.2
 have h4:=hn w M hX
 have h5:XE.d ((d,W,v)::L')=(d,W.d,u)::L'.d:=by rw[<-XC hv];rfl
 have h6:RQ c.P all (λ w'=>Ext w w') c.N (λ a=> ∀w',St c.w0 c.M0 w' M (HD H++c.Hr)->post c B k .normal a w') rest ((d,W.d,u)::L'.d):=h5▸h4
 exact RQ.call (JS hg.1) ct (KA hx hE2) (λ hW w1 hw1=>(hc hW w1 M ⟨hX.st.ext hw1,hX.f,hX.le⟩).mono λ e w' ⟨h1,h2⟩=>⟨h1,hw1.trans h2⟩) hg.2 h6
end
end Go.Eng
