/-
  Parts CKSelect, put together and made short by wip/py/merge.py (mini.py).
-/
import Derived.Test.YtnoegalemkbbbaaGreatDoorKt22
set_option linter.unusedVariables false
set_option linter.unusedSimpArgs false
set_option maxRecDepth 100000
namespace Go.Proofs.YtnoegalemkbbbaaGreatDoor.checkSelect
open Go.Proofs.Tryz
open Go.ChangeShapes Go.WideShapes Go.ChangeAt Go.RowKit Go.Eng
open Go.ChangeMaps (open_string shut_string)
theorem one_le{H:Type}(d:DataW H):1<=Rows.uptoBulk d:=by
 cases d with
 |lit l=>cases l<;>simp[Rows.uptoBulk]
 |_=>simp[Rows.uptoBulk]
theorem length_le{H:Type}(l:List (DataW H)):l.length<=Rows.uptoBulkAll l:=by
 induction l with
 |nil=>simp[Rows.uptoBulkAll]
 |cons x r ih=>have:=one_le x;simp only[Rows.uptoBulkAll,List.length_cons];omega
set_option maxRecDepth 100000 in
theorem BL7{H:Type}{enc:TypeId×Value->H}{W:World}{t e:TypeId}{v:Value}{d:DataW H}{ps:List MemPlace}{l:Fl}(ht:prog.underlying t=some (.slice e))(h:DataW.Trod enc prog W 0 (λ _=>true) true t v d ps)(hl:Sl (NJ W) 11 l.length v (l.flatMap Tm.cells)):l.length<=Rows.uptoBulk d:=by
 obtain⟨p,cap,rfl,_⟩:=hl.val
 obtain⟨fuel,h⟩:=h
 rcases Go.Deep.open_slice ht h with⟨h1,_⟩|⟨a,ln,cap',m,n,D,Pl,h1,_,_,_,_,h2,_⟩
 ·simp only[Value.cells,List.cons.injEq,Value.slice.injEq,and_true]at h1
  omega
 ·simp only[Value.cells,List.cons.injEq,Value.slice.injEq,and_true]at h1
  obtain⟨rfl,rfl⟩:=Prod.mk.inj h2
  have:=length_le ((List.range ln).map D)
  simp only[List.length_map,List.length_range]at this
  simp only[Rows.uptoBulk]
  omega
set_option maxRecDepth 100000 in
theorem BL8(H:Type)(enc:TypeId×Value->H)(W:World)(base:Nat)(args:Array Value)(ds gs:List (DataW H))(before:List MemPlace)
  (hval: ∀(j:Nat) t v,Tryz.f5.params[j]? =some t->args[j]? =some v->Value.okWide prog W .any base t v)
  (hW:DataW.Whole enc prog Tryz.f5.params.toList Rows.checkSelectSpec.vars false W args.toList ds gs before) (hL:laidMetH prog Rows.checkSelectUptoRow.laid W) (hk:Rows.uptoSmall H (ds++gs)=true):
  Calls prog 5 args W λ e W'=> ∃v,e= .returned v/\Rows.checkSelectSpec.post enc prog Tryz.f5 false true false false W args v W':=by
 have hW':=hW
 obtain⟨p,q,hA0,hV,rfl,hfz,hnd⟩:=hW
 have hA:DataW.TrodAll enc prog W 0 (λ _=>true) true Tryz.f5.params.toList args.toList ds p:=hA0
 rw[Tryz.params5]at hA hval
 obtain⟨v0,v1,v2,d0,d1,d2,p0,p1,p2,rfl,rfl,rfl,h0,h1,h2⟩:=trodAll_three hA
 obtain⟨rfl,rfl⟩:=trodVars_none hV
 obtain⟨l0,hl0⟩:=AL6 (hval 0 23 v0 rfl rfl) h0
 obtain⟨l1,hl1⟩:=AL8 (hval 1 25 v1 rfl rfl) h1
 obtain⟨l2,hl2⟩:=AL9 (hval 2 33 v2 rfl rfl) h2
 have hlt0: ∀x∈p0,x.block<W.heap.size:=λ x hx=>hW'.lt x (by simp[hx])
 have hlt1: ∀x∈p1,x.block<W.heap.size:=λ x hx=>hW'.lt x (by simp[hx])
 have hlt2: ∀x∈p2,x.block<W.heap.size:=λ x hx=>hW'.lt x (by simp[hx])
 have hlen:len l0<=100000000000:=by
  have h:Rows.uptoBulkAll ([d0,d1,d2]++[])<=1048576:=of_decide_eq_true hk
  have h2:=BL7 underlying23 h0 hl0
  simp only[List.append_nil,Rows.uptoBulkAll]at h
  unfold len;omega
 clear hA0
 refine(BI4 l0 l1 l2 v0 v1 v2 W (NJ W) (AL3 W) (AH1 hL) ⟨hl0,Tm.AO,trivial⟩ ⟨hl1,Tm.AO,trivial⟩ ⟨hl2,Nd.AO,trivial⟩ hlen).mono ?_
 rintro e W' ⟨rfl,hx⟩
 refine⟨_,rfl,_,_,_,[],p0++p1++p2,[],hW',?_,?_,?_,hx.frame _,λ h=>by cases h⟩
 ·exact trodAll_mk1 (shut_bool underlying4 _)
 ·rw[List.append_assoc p0];exact trodAll_mk3 (Below.trod laidOut Ai (of_decide_eq_true Ai) h0 hx hlt0) (Below.trod laidOut Ai (of_decide_eq_true Ai) h1 hx hlt1) (Below.trod laidOut Ai (of_decide_eq_true Ai) h2 hx hlt2)
 ·rfl
set_option maxRecDepth 100000 in
set_option maxHeartbeats 2000000 in
theorem lifted(os:Os)(started:os.Started)(H:Type)(enc:TypeId×Value->H)(F:Stop.Interp):
  ReturnsInHanded {} Tryz.checked os 5 .any ((Rows.OpenSpec.upto Rows.checkSelectSpec).preRow enc prog Tryz.f5 Rows.checkSelectUptoRow.domain false Rows.checkSelectUptoRow.laid) (((Rows.OpenSpec.upto Rows.checkSelectSpec).at F).post enc prog Tryz.f5 false true false false):=by
 have hw:(DataW.whole enc prog ((dN os).forCall (λ _ _=>0) ⟨#[],#[.slice none 0 0,.slice none 0 0,.slice none 0 0],[]⟩).memory Tryz.f5.params.toList Rows.checkSelectSpec.vars false #[Value.slice none 0 0,.slice none 0 0,.slice none 0 0].toList 8).map (λ x=>(x.1,x.2.1))=
   some ([.nil,.nil,.nil],[]):=by kernel_rfl
 obtain⟨⟨x1,x2,x3⟩,hx,hx1⟩:=Option.map_eq_some_iff.1 hw
 simp only[Prod.mk.injEq]at hx1
 obtain⟨rfl,rfl⟩:=hx1
 refine returnsInHanded_of_row (C:=Tryz.checked) (s:=Rows.OpenSpec.upto Rows.checkSelectSpec) own started Ai func5
  (witness_row_atRef (enc:=enc) (C:=Tryz.checked) false (dN os) #[.slice none 0 0,.slice none 0 0,.slice none 0 0] U Ai Ai Ai
   (OpenSpec.preRow_of_cond 8 hx Ai (λ k hk=>by cases hk;kernel_rfl) Ai (AH3 os _))) ?_
 intro W base args ds gs before hval hW _ hcond _ hL _ _
 exact BL8 H enc W base args ds gs before hval hW hL (hcond _ U)
set_option maxRecDepth 100000 in
theorem said:Rows.CheckSelectUptoSaid:=
 OpenClaim.holds_of_cond 5 Tryz.f5 U U U U U U U ⟨rfl,rfl,rfl,rfl,rfl⟩ U U U U U Ai func5 jV
  (of_decide_eq_true Ai) (by unfold Func.isWrapper;first|(rw[if_pos Ac];kernel_rfl)|(rw[if_neg Ac];exact⟨rfl,rfl⟩))
  (λ os started H enc _ F=>by rw[OpenClaim.pre_eq_preRow];exact lifted os started H enc F)
theorem plain(f:FuncId)(fn:Func)(hf:Tryz.pinned.checked.prog.funcNamed "loupe/loupelaw17.CheckSelect"=some f)(hfn:Tryz.pinned.checked.prog.funcs[f]? =some fn):
  true=Tryz.pinned.checked.prog.looks []/\ ∀(j:Nat) t,fn.params[j]? =some t->Tryz.pinned.checked.prog.wantsStandIn t=false:=by
 obtain rfl:f=5:=Option.some.inj ((show prog.funcNamed "loupe/loupelaw17.CheckSelect"=some 5 by kernel_rfl).symm.trans hf)|>.symm
 obtain rfl:fn=Tryz.f5:=(Option.some.inj (func5.symm.trans hfn)).symm
 refine⟨by kernel_rfl,λ j t ht=>?_⟩
 rw[Tryz.params5]at ht
 have hm:=Array.mem_of_getElem? ht
 have hm2:t=23\/t=25\/t=33:=by simp at hm;first|exact hm|(rcases hm with h|h|h<;>simp[h])
 rcases hm2 with rfl|rfl|rfl
 ·exact(show prog.wantsStandIn 23=false by kernel_rfl)
 ·exact(show prog.wantsStandIn 25=false by kernel_rfl)
 ·exact(show prog.wantsStandIn 33=false by kernel_rfl)
theorem card:Rows.CheckSelectUptoCardSaid:=
 Claim7.holds_tied_plain_at .later [] _ _ _ _ said (λ _ h=>by cases h) Ai (λ _ h=>by cases h) checkSelectUpto_row_tie rfl ⟨rfl,rfl⟩ Ai rfl plain Ai
end Go.Proofs.YtnoegalemkbbbaaGreatDoor.checkSelect
