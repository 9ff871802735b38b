/-
  Parts CSJoins, put together and made short by wip/py/merge.py (mini.py).
-/
import Derived.Test.YtmjpjbmeamnfpaaGreatDoorZe5
import Derived.Test.YtmjpjbmeamnfpaaGreatDoorZe30
import Derived.Test.YtmjpjbmeamnfpaaGreatDoorZe0
set_option linter.unusedVariables false
set_option linter.unusedSimpArgs false
namespace Go.Proofs.YtmjpjbmeamnfpaaGreatDoor.schemaJoins
open Go.ChangeShapes Go.WideShapes Go.ChangeAt Go.RowKit Go.Eng
open Go.ChangeMaps (open_string shut_string)
set_option maxRecDepth 100000 in
theorem AM1(H:Type)(enc:TypeId×Value->H)(W:World)(base:Nat)(args:Array Value)(ds gs:List (DataW H))(before:List MemPlace)
  (hval: ∀(j:Nat) t v,Tryz.f7.params[j]? =some t->args[j]? =some v->Value.okWide Tryz.prog W .any base t v)
  (hW:DataW.Whole enc Tryz.prog Tryz.f7.params.toList Rows.schemaJoinsSpec.vars false W args.toList ds gs before) (hL:laidMetH Tryz.prog Rows.schemaJoinsRow.laid W)
  (hwt:(DataW.weightsEach Tryz.prog (Tryz.f7.params.toList++(OpenSpec.ofChange Rows.schemaJoinsSpec).bare.plain.varTypes Tryz.prog) (ds++gs)).all (· <=reachBytes)=true):
  Calls Tryz.prog 7 args W λ e W'=> ∃v,e= .returned v/\Rows.schemaJoinsSpec.post enc Tryz.prog Tryz.f7 false true false false W args v W':=by
 have hW':=hW
 obtain⟨p,q,hA0,hV,rfl,hfz,hnd⟩:=hW
 have hA:DataW.TrodAll enc Tryz.prog W 0 (λ _=>true) true Tryz.f7.params.toList args.toList ds p:=hA0
 rw[Tryz.params7]at hA hval
 rw[Tryz.params7]at hwt
 obtain⟨v0,v1,d0,d1,p0,p1,rfl,rfl,rfl,h0,h1⟩:=trodAll_two hA
 obtain⟨rfl,rfl⟩:=trodVars_none hV
 obtain⟨s0,rfl,rfl,rfl,ws0⟩:=open_string Tryz.underlying9 (hval 0 9 v0 rfl rfl) h0
 obtain⟨s1,rfl,rfl,rfl,ws1⟩:=open_string Tryz.underlying9 (hval 1 9 v1 rfl rfl) h1
 have hsz:(s0.data.toList.length:Int)<=140737488355328/\(s1.data.toList.length:Int)<=140737488355328:=by
  simp only[List.all_eq_true,decide_eq_true_eq]at hwt
  have a0:=hwt s0.data.toList.length (by simp[DataW.weightsEach,DataW.weights])
  have a1:=hwt s1.data.toList.length (by simp[DataW.weightsEach,DataW.weights])
  simp only[reachBytes]at a0 a1
  omega
 clear hA0
 refine(AI8 s0.data.toList s1.data.toList W (oW hL) (Int.le_trans hsz.1 (by decide)) (Int.le_trans hsz.2 (by decide))).mono ?_
 rintro e W' ⟨rfl,hx⟩
 refine⟨_,rfl,_,_,_,[],[],[],hW',?_,?_,?_,hx.frame _,λ h=>by cases h⟩
 ·exact trodAll_mk1 (shut_bool Tryz.underlying4 _)
 ·exact trodAll_mk2 (shut_string Tryz.underlying9 ws0) (shut_string Tryz.underlying9 ws1)
 ·rfl
set_option maxRecDepth 100000 in
set_option maxHeartbeats 2000000 in
theorem lifted(os:Os)(started:os.Started)(H:Type)(enc:TypeId×Value->H)(F:Stop.Interp):
  ReturnsInHanded {} Tryz.checked os 7 .any ((OpenSpec.ofChange Rows.schemaJoinsSpec).preRow enc Tryz.prog Tryz.f7 Rows.schemaJoinsRow.domain false Rows.schemaJoinsRow.laid) (((OpenSpec.ofChange Rows.schemaJoinsSpec).at F).post enc Tryz.prog Tryz.f7 false true false false):=by
 have hw:(DataW.whole enc Tryz.prog ((WE os).forCall (λ _ _=>0) ⟨#[],#[.string ⟨#[]⟩,.string ⟨#[]⟩],[]⟩).memory Tryz.f7.params.toList Rows.schemaJoinsSpec.vars false #[Value.string ⟨#[]⟩,.string ⟨#[]⟩].toList 8).map (λ x=>(x.1,x.2.1))=
   some ([.lit (.string []),.lit (.string [])],[]):=by kernel_rfl
 obtain⟨⟨x1,x2,x3⟩,hx,hx1⟩:=Option.map_eq_some_iff.1 hw
 simp only[Prod.mk.injEq]at hx1
 obtain⟨rfl,rfl⟩:=hx1
 refine returnsInHanded_of_row (C:=Tryz.checked) (s:=OpenSpec.ofChange Rows.schemaJoinsSpec) own started (by kernel_rfl) Tryz.func7
  (witness_row_atRef (enc:=enc) (C:=Tryz.checked) false (WE os) #[.string ⟨#[]⟩,.string ⟨#[]⟩] U (by kernel_rfl) (by kernel_rfl) (by kernel_rfl)
   (OpenSpec.preRow_of_cond 8 hx (by kernel_rfl) (λ k hk=>by cases hk) (by kernel_rfl) (oY os _))) ?_
 intro W base args ds gs before hval hW _ _ hwt hL _ _
 exact AM1 H enc W base args ds gs before hval hW hL hwt
set_option maxRecDepth 100000 in
theorem said:Rows.SchemaJoinsSaid:=
 OpenClaim.holds_of_cond 7 Tryz.f7 U U U U U U U ⟨rfl,rfl,rfl,rfl,rfl⟩ U U U U U (by kernel_rfl) Tryz.func7 aN
  (of_decide_eq_true (by kernel_rfl)) (by unfold Func.isWrapper;first|(rw[if_pos (by decide+kernel)];kernel_rfl)|(rw[if_neg (by decide+kernel)];exact⟨rfl,rfl⟩))
  (λ os started H enc _ F=>by rw[OpenClaim.pre_eq_preRow];exact lifted os started H enc F)
theorem plain(f:FuncId)(fn:Func)(hf:Tryz.pinned.checked.prog.funcNamed "loupe/loupelaw13.SchemaJoins"=some f)(hfn:Tryz.pinned.checked.prog.funcs[f]? =some fn):
  true=Tryz.pinned.checked.prog.looks []/\ ∀(j:Nat) t,fn.params[j]? =some t->Tryz.pinned.checked.prog.wantsStandIn t=false:=by
 obtain rfl:f=7:=Option.some.inj ((show Tryz.prog.funcNamed "loupe/loupelaw13.SchemaJoins"=some 7 by kernel_rfl).symm.trans hf)|>.symm
 obtain rfl:fn=Tryz.f7:=(Option.some.inj (Tryz.func7.symm.trans hfn)).symm
 refine⟨by kernel_rfl,λ j t ht=>?_⟩
 rw[Tryz.params7]at ht
 have hm:=Array.mem_of_getElem? ht
 obtain rfl:t=9:=by simpa using hm
 exact(show Tryz.prog.wantsStandIn 9=false by kernel_rfl)
theorem card:Rows.SchemaJoinsCardSaid:=
 Claim7.holds_tied_plain_at .later [] _ _ _ _ said (λ _ h=>by cases h) (by kernel_rfl) (λ _ h=>by cases h) schemaJoins_row_tie rfl ⟨rfl,rfl⟩ (by kernel_rfl) rfl plain (by kernel_rfl)
end Go.Proofs.YtmjpjbmeamnfpaaGreatDoor.schemaJoins
