/-
  Parts CKPipe, put together and made short by wip/py/merge.py (mini.py).
-/
import Derived.Test.YtnoegalemkbbbaaGreatDoorKp21
set_option linter.unusedVariables false
set_option linter.unusedSimpArgs false
set_option maxRecDepth 100000
namespace Go.Proofs.YtnoegalemkbbbaaGreatDoor.checkPipe
open Go.Proofs.Tryz
open Go.ChangeShapes Go.WideShapes Go.ChangeAt Go.RowKit Go.Eng
open Go.ChangeMaps (open_string shut_string)
set_option maxRecDepth 100000 in
theorem BI1(H:Type)(enc:TypeId×Value->H)(W:World)(base:Nat)(args:Array Value)(ds gs:List (DataW H))(before:List MemPlace)
  (hval: ∀(j:Nat) t v,Tryz.f6.params[j]? =some t->args[j]? =some v->Value.okWide prog W .any base t v)
  (hW:DataW.Whole enc prog Tryz.f6.params.toList Rows.checkPipeSpec.vars false W args.toList ds gs before) (hL:laidMetH prog Rows.checkPipeRow.laid W):
  Calls prog 6 args W λ e W'=> ∃v,e= .returned v/\Rows.checkPipeSpec.post enc prog Tryz.f6 false true false false W args v W':=by
 have hW':=hW
 obtain⟨p,q,hA0,hV,rfl,hfz,hnd⟩:=hW
 have hA:DataW.TrodAll enc prog W 0 (λ _=>true) true Tryz.f6.params.toList args.toList ds p:=hA0
 rw[Tryz.params6]at hA hval
 obtain⟨v0,v1,v2,d0,d1,d2,p0,p1,p2,rfl,rfl,rfl,h0,h1,h2⟩:=trodAll_three hA
 obtain⟨rfl,rfl⟩:=trodVars_none hV
 obtain⟨l0,hl0⟩:=n7 (hval 0 23 v0 rfl rfl) h0
 obtain⟨l1,hl1⟩:=n7 (hval 1 23 v1 rfl rfl) h1
 obtain⟨l2,hl2⟩:=AH7 (hval 2 25 v2 rfl rfl) h2
 have hlt0: ∀x∈p0,x.block<W.heap.size:=λ x hx=>hW'.lt x (by simp[hx])
 have hlt1: ∀x∈p1,x.block<W.heap.size:=λ x hx=>hW'.lt x (by simp[hx])
 have hlt2: ∀x∈p2,x.block<W.heap.size:=λ x hx=>hW'.lt x (by simp[hx])
 clear hA0
 refine(BE8 l0 l1 l2 v0 v1 v2 W (S2 W) (AH3 W) (AD0 hL) ⟨hl0,Tm.AV,trivial⟩ ⟨hl1,Tm.AV,trivial⟩ ⟨hl2,Tm.AV,trivial⟩).mono ?_
 rintro e W' ⟨rfl,hx⟩
 refine⟨_,rfl,_,_,_,[],p0++p1++p2,[],hW',?_,?_,?_,hx.frame _,λ h=>by cases h⟩
 ·exact trodAll_mk1 (shut_bool underlying4 _)
 ·rw[List.append_assoc p0];exact trodAll_mk3 (Below.trod laidOut Ai (of_decide_eq_true Ai) h0 hx hlt0) (Below.trod laidOut Ai (of_decide_eq_true Ai) h1 hx hlt1) (Below.trod laidOut Ai (of_decide_eq_true Ai) h2 hx hlt2)
 ·rfl
set_option maxRecDepth 100000 in
set_option maxHeartbeats 2000000 in
theorem lifted(os:Os)(started:os.Started)(H:Type)(enc:TypeId×Value->H)(F:Stop.Interp):
  ReturnsInHanded {} Tryz.checked os 6 .any ((OpenSpec.ofChange Rows.checkPipeSpec).preRow enc prog Tryz.f6 Rows.checkPipeRow.domain false Rows.checkPipeRow.laid) (((OpenSpec.ofChange Rows.checkPipeSpec).at F).post enc prog Tryz.f6 false true false false):=by
 have hw:(DataW.whole enc prog ((dJ os).forCall (λ _ _=>0) ⟨#[],#[.slice none 0 0,.slice none 0 0,.slice none 0 0],[]⟩).memory Tryz.f6.params.toList Rows.checkPipeSpec.vars false #[Value.slice none 0 0,.slice none 0 0,.slice none 0 0].toList 8).map (λ x=>(x.1,x.2.1))=
   some ([.nil,.nil,.nil],[]):=by kernel_rfl
 obtain⟨⟨x1,x2,x3⟩,hx,hx1⟩:=Option.map_eq_some_iff.1 hw
 simp only[Prod.mk.injEq]at hx1
 obtain⟨rfl,rfl⟩:=hx1
 refine returnsInHanded_of_row (C:=Tryz.checked) (s:=OpenSpec.ofChange Rows.checkPipeSpec) own started Ai func6
  (witness_row_atRef (enc:=enc) (C:=Tryz.checked) false (dJ os) #[.slice none 0 0,.slice none 0 0,.slice none 0 0] U Ai Ai Ai
   (OpenSpec.preRow_of_cond 8 hx Ai (λ k hk=>by cases hk) Ai (AD2 os _))) ?_
 intro W base args ds gs before hval hW _ _ _ hL _ _
 exact BI1 H enc W base args ds gs before hval hW hL
set_option maxRecDepth 100000 in
theorem said:Rows.CheckPipeSaid:=
 OpenClaim.holds_of_cond 6 Tryz.f6 U U U U U U U ⟨rfl,rfl,rfl,rfl,rfl⟩ U U U U U Ai func6 iW
  (of_decide_eq_true Ai) (by unfold Func.isWrapper;first|(rw[if_pos Ac];kernel_rfl)|(rw[if_neg Ac];exact⟨rfl,rfl⟩))
  (λ os started H enc _ F=>by rw[OpenClaim.pre_eq_preRow];exact lifted os started H enc F)
theorem plain(f:FuncId)(fn:Func)(hf:Tryz.pinned.checked.prog.funcNamed "loupe/loupelaw17.CheckPipe"=some f)(hfn:Tryz.pinned.checked.prog.funcs[f]? =some fn):
  true=Tryz.pinned.checked.prog.looks []/\ ∀(j:Nat) t,fn.params[j]? =some t->Tryz.pinned.checked.prog.wantsStandIn t=false:=by
 obtain rfl:f=6:=Option.some.inj ((show prog.funcNamed "loupe/loupelaw17.CheckPipe"=some 6 by kernel_rfl).symm.trans hf)|>.symm
 obtain rfl:fn=Tryz.f6:=(Option.some.inj (func6.symm.trans hfn)).symm
 refine⟨by kernel_rfl,λ j t ht=>?_⟩
 rw[Tryz.params6]at ht
 have hm:=Array.mem_of_getElem? ht
 have hm2:t=23\/t=25:=by simp at hm;first|exact hm|(rcases hm with h|h|h<;>simp[h])
 rcases hm2 with rfl|rfl
 ·exact(show prog.wantsStandIn 23=false by kernel_rfl)
 ·exact(show prog.wantsStandIn 25=false by kernel_rfl)
theorem card:Rows.CheckPipeCardSaid:=
 Claim7.holds_tied_plain_at .later [] _ _ _ _ said (λ _ h=>by cases h) Ai (λ _ h=>by cases h) checkPipe_row_tie rfl ⟨rfl,rfl⟩ Ai rfl plain Ai
end Go.Proofs.YtnoegalemkbbbaaGreatDoor.checkPipe
