/-
  Parts CSBack, put together and made short by wip/py/merge.py (mini.py).
-/
import Derived.Test.YtmjpjbmeamnfpaaGreatDoorZf23
set_option linter.unusedVariables false
set_option linter.unusedSimpArgs false
namespace Go.Proofs.YtmjpjbmeamnfpaaGreatDoor.schemaBack
open Go.Proofs.Tryz
open Go.ChangeShapes Go.WideShapes Go.ChangeAt Go.RowKit Go.Eng
open Go.ChangeMaps (open_string shut_string)
set_option maxRecDepth 100000 in
theorem Am0(H:Type)(enc:TypeId×Value->H)(W:World)(base:Nat)(args:Array Value)(ds gs:List (DataW H))(before:List MemPlace)
  (hval: ∀(j:Nat) t v,Tryz.f6.params[j]? =some t->args[j]? =some v->Value.okWide prog W .any base t v)
  (hW:DataW.Whole enc prog Tryz.f6.params.toList Rows.schemaBackSpec.vars false W args.toList ds gs before) (hL:laidMetH prog Rows.schemaBackRow.laid W):
  Calls prog 6 args W λ e W'=> ∃v,e= .returned v/\Rows.schemaBackSpec.post enc prog Tryz.f6 false true false false W args v W':=by
 have hW':=hW
 obtain⟨p,q,hA0,hV,rfl,hfz,hnd⟩:=hW
 have hA:DataW.TrodAll enc prog W 0 (λ _=>true) true Tryz.f6.params.toList args.toList ds p:=hA0
 rw[Tryz.params6]at hA hval
 obtain⟨v0,d0,rfl,rfl,h0⟩:=trodAll_one hA
 obtain⟨rfl,rfl⟩:=trodVars_none hV
 obtain⟨l0,hl0⟩:=wA (hval 0 36 v0 rfl rfl) h0
 have hlt: ∀x∈p,x.block<W.heap.size:=λ x hx=>hW'.lt x (by simp[hx])
 clear hA0
 refine(Ai7 (VL W) l0 v0 W (vW W) hl0 (uF hL)).mono ?_
 rintro e W' ⟨rfl,hx⟩
 refine⟨_,rfl,_,_,_,[],p,[],hW',?_,?_,?_,hx.frame _,λ h=>by cases h⟩
 ·exact trodAll_mk1 (shut_bool underlying4 _)
 ·exact trodAll_mk1 (Below.trod laidOut (by kernel_rfl) (of_decide_eq_true (by kernel_rfl)) h0 hx hlt)
 ·rfl
set_option maxRecDepth 100000 in
set_option maxHeartbeats 2000000 in
theorem lifted(os:Os)(started:os.Started)(H:Type)(enc:TypeId×Value->H)(F:Stop.Interp):
  ReturnsInHanded {} Tryz.checked os 6 .any ((OpenSpec.ofChange Rows.schemaBackSpec).preRow enc prog Tryz.f6 Rows.schemaBackRow.domain false Rows.schemaBackRow.laid) (((OpenSpec.ofChange Rows.schemaBackSpec).at F).post enc prog Tryz.f6 false true false false):=by
 have hw:(DataW.whole enc prog ((Z4 os).forCall (λ _ _=>0) ⟨#[],#[.slice none 0 0],[]⟩).memory Tryz.f6.params.toList Rows.schemaBackSpec.vars false #[Value.slice none 0 0].toList 8).map (λ x=>(x.1,x.2.1))=
   some ([.nil],[]):=by kernel_rfl
 obtain⟨⟨x1,x2,x3⟩,hx,hx1⟩:=Option.map_eq_some_iff.1 hw
 simp only[Prod.mk.injEq]at hx1
 obtain⟨rfl,rfl⟩:=hx1
 refine returnsInHanded_of_row (C:=Tryz.checked) (s:=OpenSpec.ofChange Rows.schemaBackSpec) own started (by kernel_rfl) func6
  (witness_row_atRef (enc:=enc) (C:=Tryz.checked) false (Z4 os) #[.slice none 0 0] U (by kernel_rfl) (by kernel_rfl) (by kernel_rfl)
   (OpenSpec.preRow_of_cond 8 hx (by kernel_rfl) (λ k hk=>by cases hk) (by kernel_rfl) (uH os _))) ?_
 intro W base args ds gs before hval hW _ _ _ hL _ _
 exact Am0 H enc W base args ds gs before hval hW hL
set_option maxRecDepth 100000 in
theorem said:Rows.SchemaBackSaid:=
 OpenClaim.holds_of_cond 6 Tryz.f6 U U U U U U U ⟨rfl,rfl,rfl,rfl,rfl⟩ U U U U U (by kernel_rfl) func6 eK
  (of_decide_eq_true (by kernel_rfl)) (by unfold Func.isWrapper;first|(rw[if_pos (by decide+kernel)];kernel_rfl)|(rw[if_neg (by decide+kernel)];exact⟨rfl,rfl⟩))
  (λ os started H enc _ F=>by rw[OpenClaim.pre_eq_preRow];exact lifted os started H enc F)
theorem plain(f:FuncId)(fn:Func)(hf:Tryz.pinned.checked.prog.funcNamed "loupe/loupelaw13.SchemaBack"=some f)(hfn:Tryz.pinned.checked.prog.funcs[f]? =some fn):
  true=Tryz.pinned.checked.prog.looks []/\ ∀(j:Nat) t,fn.params[j]? =some t->Tryz.pinned.checked.prog.wantsStandIn t=false:=by
 obtain rfl:f=6:=Option.some.inj ((show prog.funcNamed "loupe/loupelaw13.SchemaBack"=some 6 by kernel_rfl).symm.trans hf)|>.symm
 obtain rfl:fn=Tryz.f6:=(Option.some.inj (func6.symm.trans hfn)).symm
 refine⟨by kernel_rfl,λ j t ht=>?_⟩
 rw[Tryz.params6]at ht
 have hm:=Array.mem_of_getElem? ht
 obtain rfl:t=36:=by simpa using hm
 exact(show prog.wantsStandIn 36=false by kernel_rfl)
theorem card:Rows.SchemaBackCardSaid:=
 Claim7.holds_tied_plain_at .later [] _ _ _ _ said (λ _ h=>by cases h) (by kernel_rfl) (λ _ h=>by cases h) schemaBack_row_tie rfl ⟨rfl,rfl⟩ (by kernel_rfl) rfl plain (by kernel_rfl)
end Go.Proofs.YtmjpjbmeamnfpaaGreatDoor.schemaBack
