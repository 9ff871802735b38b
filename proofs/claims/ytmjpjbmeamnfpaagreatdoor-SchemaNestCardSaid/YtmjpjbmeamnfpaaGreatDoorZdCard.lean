/-
  Parts CSNest, put together and made short by wip/py/merge.py (mini.py).
-/
import Derived.Test.YtmjpjbmeamnfpaaGreatDoorZd5
import Derived.Test.YtmjpjbmeamnfpaaGreatDoorZd28
import Derived.Test.YtmjpjbmeamnfpaaGreatDoorZd0
set_option linter.unusedVariables false
set_option linter.unusedSimpArgs false
namespace Go.Proofs.YtmjpjbmeamnfpaaGreatDoor.schemaNest
open Go.ChangeShapes Go.WideShapes Go.ChangeAt Go.RowKit Go.Eng
open Go.ChangeMaps (open_string shut_string)
theorem iT{n:Int}(h:(Lit.int .u8 n).wf=true):0<=n/\n<=255:=by
 simp only[Lit.wf,Bool.and_eq_true,decide_eq_true_eq]at h
 have h1:IntKind.u8.min=0:=by decide
 have h2:IntKind.u8.max=255:=by decide
 omega
set_option maxRecDepth 100000 in
theorem AA5(H:Type)(enc:TypeId×Value->H)(W:World)(base:Nat)(args:Array Value)(ds gs:List (DataW H))(before:List MemPlace)
  (hval: ∀(j:Nat) t v,Tryz.f8.params[j]? =some t->args[j]? =some v->Value.okWide Tryz.prog W .any base t v)
  (hW:DataW.Whole enc Tryz.prog Tryz.f8.params.toList Rows.schemaNestSpec.vars false W args.toList ds gs before) (hL:laidMetH Tryz.prog Rows.schemaNestRow.laid W):
  Calls Tryz.prog 8 args W λ e W'=> ∃v,e= .returned v/\Rows.schemaNestSpec.post enc Tryz.prog Tryz.f8 false true false false W args v W':=by
 have hW':=hW
 obtain⟨p,q,hA0,hV,rfl,hfz,hnd⟩:=hW
 have hA:DataW.TrodAll enc Tryz.prog W 0 (λ _=>true) true Tryz.f8.params.toList args.toList ds p:=hA0
 rw[Tryz.params8]at hA hval
 obtain⟨v0,v1,d0,d1,p0,p1,rfl,rfl,rfl,h0,h1⟩:=trodAll_two hA
 obtain⟨rfl,rfl⟩:=trodVars_none hV
 obtain⟨n0,rfl,rfl,rfl,ws0⟩:=open_int Tryz.underlying5 (hval 0 5 v0 rfl rfl) h0
 have hn0:=iT ws0
 obtain⟨n1,rfl,rfl,rfl,ws1⟩:=open_int Tryz.underlying5 (hval 1 5 v1 rfl rfl) h1
 have hn1:=iT ws1
 clear hA0
 refine(z6 n0 n1 W (lP hL) hn0 hn1).mono ?_
 rintro e W' ⟨rfl,hx⟩
 refine⟨_,rfl,_,_,_,[],[],[],hW',?_,?_,?_,hx.frame _,λ h=>by cases h⟩
 ·exact trodAll_mk1 (shut_bool Tryz.underlying4 _)
 ·exact trodAll_mk2 (shut_int Tryz.underlying5 ws0) (shut_int Tryz.underlying5 ws1)
 ·rfl
set_option maxRecDepth 100000 in
set_option maxHeartbeats 2000000 in
theorem lifted(os:Os)(started:os.Started)(H:Type)(enc:TypeId×Value->H)(F:Stop.Interp):
  ReturnsInHanded {} Tryz.checked os 8 .any ((OpenSpec.ofChange Rows.schemaNestSpec).preRow enc Tryz.prog Tryz.f8 Rows.schemaNestRow.domain false Rows.schemaNestRow.laid) (((OpenSpec.ofChange Rows.schemaNestSpec).at F).post enc Tryz.prog Tryz.f8 false true false false):=by
 have hw:(DataW.whole enc Tryz.prog ((UC os).forCall (λ _ _=>0) ⟨#[],#[.int .u8 0,.int .u8 0],[]⟩).memory Tryz.f8.params.toList Rows.schemaNestSpec.vars false #[Value.int .u8 0,.int .u8 0].toList 8).map (λ x=>(x.1,x.2.1))=
   some ([.lit (.int .u8 0),.lit (.int .u8 0)],[]):=by kernel_rfl
 obtain⟨⟨x1,x2,x3⟩,hx,hx1⟩:=Option.map_eq_some_iff.1 hw
 simp only[Prod.mk.injEq]at hx1
 obtain⟨rfl,rfl⟩:=hx1
 refine returnsInHanded_of_row (C:=Tryz.checked) (s:=OpenSpec.ofChange Rows.schemaNestSpec) own started (by kernel_rfl) Tryz.func8
  (witness_row_atRef (enc:=enc) (C:=Tryz.checked) false (UC os) #[.int .u8 0,.int .u8 0] U (by kernel_rfl) (by kernel_rfl) (by kernel_rfl)
   (OpenSpec.preRow_of_cond 8 hx (by kernel_rfl) (λ k hk=>by cases hk) (by kernel_rfl) (lR os _))) ?_
 intro W base args ds gs before hval hW _ _ _ hL _ _
 exact AA5 H enc W base args ds gs before hval hW hL
set_option maxRecDepth 100000 in
theorem said:Rows.SchemaNestSaid:=
 OpenClaim.holds_of_cond 8 Tryz.f8 U U U U U U U ⟨rfl,rfl,rfl,rfl,rfl⟩ U U U U U (by kernel_rfl) Tryz.func8 AA4
  (of_decide_eq_true (by kernel_rfl)) (by unfold Func.isWrapper;first|(rw[if_pos (by decide+kernel)];kernel_rfl)|(rw[if_neg (by decide+kernel)];exact⟨rfl,rfl⟩))
  (λ os started H enc _ F=>by rw[OpenClaim.pre_eq_preRow];exact lifted os started H enc F)
theorem plain(f:FuncId)(fn:Func)(hf:Tryz.pinned.checked.prog.funcNamed "loupe/loupelaw13.SchemaNest"=some f)(hfn:Tryz.pinned.checked.prog.funcs[f]? =some fn):
  true=Tryz.pinned.checked.prog.looks []/\ ∀(j:Nat) t,fn.params[j]? =some t->Tryz.pinned.checked.prog.wantsStandIn t=false:=by
 obtain rfl:f=8:=Option.some.inj ((show Tryz.prog.funcNamed "loupe/loupelaw13.SchemaNest"=some 8 by kernel_rfl).symm.trans hf)|>.symm
 obtain rfl:fn=Tryz.f8:=(Option.some.inj (Tryz.func8.symm.trans hfn)).symm
 refine⟨by kernel_rfl,λ j t ht=>?_⟩
 rw[Tryz.params8]at ht
 have hm:=Array.mem_of_getElem? ht
 obtain rfl:t=5:=by simpa using hm
 exact(show Tryz.prog.wantsStandIn 5=false by kernel_rfl)
theorem card:Rows.SchemaNestCardSaid:=
 Claim7.holds_tied_plain_at .later [] _ _ _ _ said (λ _ h=>by cases h) (by kernel_rfl) (λ _ h=>by cases h) schemaNest_row_tie rfl ⟨rfl,rfl⟩ (by kernel_rfl) rfl plain (by kernel_rfl)
end Go.Proofs.YtmjpjbmeamnfpaaGreatDoor.schemaNest
