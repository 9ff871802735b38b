/-
  Parts Sa JSNest, put together and made short by wip/py/merge.py (mini.py).
-/
import Derived.Test.YtmjpjbmeamnfpaaGreatDoorZd24
import Derived.Test.YtmjpjbmeamnfpaaGreatDoorZd27
import Derived.Test.YtmjpjbmeamnfpaaGreatDoorZd5
import Derived.JoinedCond
import Derived.Test.YtmjpjbmeamnfpaaGreatDoorZd0
set_option linter.unusedVariables false
set_option linter.unusedSimpArgs false
set_option maxRecDepth 100000
namespace Go.Proofs.YtmjpjbmeamnfpaaGreatDoor
open Go.Eng
abbrev L7:A1:=[123,98,58,32,115,116,114,44,32,97,58,32,110,117,109,124,110,117,108,108,40,33,61,32,51,41,44,32,63,125]
abbrev iR:A1:=[91,110,117,109,44,32,115,116,114,93]
abbrev MK:A1:=[115,111,114,116,101,100,40,46,107,44,32,123,107,58,32,110,117,109,125,41]
theorem yX:(DT AH EO L7).2=(0,0)/\len (DT AH EO L7).1=4/\(at' (DT AH EO L7).1 1).name=[97]/\(at' (DT AH EO L7).1 1).n=9/\(at' (DT AH EO L7).1 0).n=1:=by decide+kernel
theorem yY:DT AH EO iR=([],4,1):=by decide+kernel
theorem yZ:(DT AH EO MK).2.2=0/\len (DT AH EO MK).1=3/\(at' (DT AH EO MK).1 0).s=[46,107]:=by decide+kernel
theorem YB(w:World)(hg:Gl w):
  Calls Tryz.prog 16 [].toArray w λ e w'=>e= .returned (.bool true)/\Ext w w':=by
 obtain⟨a1,a2,a3,a4,a5⟩:=yX
 obtain⟨c1,c2,c3⟩:=yZ
 obtain⟨z1,hz1⟩: ∃z,z=(DT AH EO L7).1:=⟨_,rfl⟩
 obtain⟨z3,hz3⟩: ∃z,z=(DT AH EO MK).1:=⟨_,rfl⟩
 obtain⟨y3,hy3⟩: ∃z,z=(DT AH EO MK).2.1:=⟨_,rfl⟩
 have e1:DT AH EO L7=(z1,0,0):=by rw[hz1];exact Prod.ext U a1
 have e3:DT AH EO MK=(z3,y3,0):=by rw[hz3,hy3];exact Prod.ext U (Prod.ext U c1)
 rw[<-hz1]at a2 a3 a4 a5
 rw[<-hz3]at c2 c3
 refine AX AT Tryz.func16 U Tryz.ntmps16 [] [] [] U (FZ w) A7 (λ B hB=>?_) U
 refine NF (λ h:AO=>.tu [.sl 1 h.v,I 0,I 0]) [1] U (A0 U) (by omega) U Tryz.call17 U U (A0 U) (λ w M hX=>by have:=Q4 QC L7 w M hX.st.sat (hg.low hX.st.low) (by decide);rw[e1]at this;exact this) (λ _=>rfl) λ h1 _=>?_
 refine NF (λ h:AO=>.tu [.sl 2 h.v,I 4,I 1]) [2] U (A0 U) (by omega) U Tryz.call17 U U (A0 U) (λ w M hX=>by have:=Q4 QC iR w M hX.st.sat (hg.low hX.st.low) (by decide);rw[yY]at this;exact this) (λ _=>rfl) λ h2 _=>?_
 refine NF (λ h:AO=>.tu [.sl 3 h.v,I y3,I 0]) [3] U (A0 U) (by omega) U Tryz.call17 U U (A0 U) (λ w M hX=>by have:=Q4 QC MK w M hX.st.sat (hg.low hX.st.low) (by decide);rw[e3]at this;exact this) (λ _=>rfl) λ h3 _=>?_
 refine AE hB U U (A0 U) (by simp only[zb]<;>omega) U (A0 U) λ w M hX=>⟨?_,hX.st.low⟩
 dsimp only
 rw[a2,a3,a4,a5,c2,c3];rfl
theorem iS(kd:Int): ∀k:Nat,len (BU kd k)<=3+9*(k:Int)
 |0=>by show len EV<=_;decide
 |k+1=>by
  have ih:=iS kd k
  have h1:=YA kd
  have h2:len (BL kd)<=8:=by unfold BL;split;decide;split;decide;split;decide;split<;>decide
  rw[BU,AJ,AJ];omega
theorem z6(n kd:Int)(w:World)(hg:Gl w)(h0:0<=n/\n<=255)(h1:0<=kd/\kd<=255):
    Calls Tryz.prog 8 [Value.int .u8 n,Value.int .u8 kd].toArray w λ e w'=>e= .returned (.bool true)/\Ext w w':=by
 obtain⟨q,hq,hq4⟩: ∃q,kd.tmod 5=q/\(q=0\/q=1\/q=2\/q=3\/q=4):=⟨kd%5,Int.tmod_eq_emod_of_nonneg h1.1,by omega⟩
 obtain⟨m,hm,hm1⟩: ∃m:Nat,n.tmod 100=(m:Int)/\m<100:=⟨(n%100).toNat,by rw[Int.tmod_eq_emod_of_nonneg h0.1];omega,by omega⟩
 have hp:=yW AH EO hq4 m
 have hmany:=iQ q m
 have hlen:=iS q
 have hol:len (BL q)<=8:=by unfold BL;split;decide;split;decide;split;decide;split<;>decide
 have ho0:=AA (BL q)
 have hsl:=YA q
 have hoff:IU q=if 3<=q then len (BL q)-1 else 0:=by rcases hq4 with rfl|rfl|rfl|rfl|rfl<;>rfl
 refine AX AT Tryz.func8 U Tryz.ntmps8 [] [] [.v (.int .u8 n),.v (.int .u8 kd)] U (FZ w) A7 (λ B hB=>?_) U
 refine CZ (.v (.int .u8 m)) U (A0 U) (by omega) U (λ w M hX=>PV.O9 (AI (v:=.v (.int .u8 n)) (E:=[]) U (A0 U)) (AI (v:=.v (.int .u8 100)) (E:=[]) U (A0 U)) (λ _=>by omega) (λ _=>hm)) ?_
 refine E9 1 [[91],[123,63,58,32],[123,97,58,32],[116,117,112,40],[101,110,116,114,105,101,115,40]] AS 1 9 DC U (A0 U) (by omega) U (A0 U) (λ w=>by kernel_rfl) U λ v1=>?_
 refine CZ (.v (.int .u8 q)) U (A0 U) (by omega) U (λ w M hX=>PV.O9 (AI (v:=.v (.int .u8 kd)) (E:=[]) U (A0 U)) (AI (v:=.v (.int .u8 5)) (E:=[]) U (A0 U)) (λ _=>by omega) (λ _=>hq)) ?_
 refine E9 2 [[93],[125],[125],[41],[41]] AS 1 9 DC U (A0 U) (by simp[len];omega) U (A0 U) (λ w=>by kernel_rfl) U λ v2=>?_
 refine CZ (.v (.int .u8 q)) U (A0 U) (by omega) U (λ w M hX=>PV.O9 (AI (v:=.v (.int .u8 kd)) (E:=[]) U (A0 U)) (AI (v:=.v (.int .u8 5)) (E:=[]) U (A0 U)) (λ _=>by omega) (λ _=>hq)) ?_
 have e1:at' [[91],[123,63,58,32],[123,97,58,32],[116,117,112,40],[101,110,116,114,105,101,115,40]] q=BL q:=by rcases hq4 with rfl|rfl|rfl|rfl|rfl<;>rfl
 have e2:at' [[93],[125],[125],[41],[41]] q=G8 q:=by rcases hq4 with rfl|rfl|rfl|rfl|rfl<;>rfl
 refine E4 (λ i:Nat=>⟨[],[],[Z 0 (.v (.int .u8 n)),Z 1 (.v (.int .u8 kd)),Z 5 (I m),Z 6 (.v (str (at' [[91],[123,63,58,32],[123,97,58,32],[116,117,112,40],[101,110,116,114,105,101,115,40]] q))),Z 7 (.v (str (at' [[93],[125],[125],[41],[41]] q))),Z 8 (.v (str (BU q i))),Z 9 (I i)]⟩) (λ i=>i<=m) (λ i=>m-i) 0 U (A0 U) (by simp[len];omega) U (Nat.zero_le _) ?_
 intro i hi
 have hli:=hlen i
 rw[e1,e2]
 refine A8 U (A0 U) (by omega) (λ hb1=>?_) (λ hb1=>?_)<;>simp only[zb]at hb1
 ·exact DJ (i+1) U (A0 U) (by simp only[AJ];clear hp hmany;exact⟨by omega,by omega,by omega,trivial⟩) U (by omega) (by omega)
 have em:i=m:=by omega
 subst em
 by_cases hk:(i:Int)<=64
 ·have e0:=hp.1 hk
  refine NF (λ h:AO=>.tu [.sl 3 h.v,I 0,I 0]) [3] (Fg:=λ h=>[(0,CJ h.v (FD q i).flat)]) (pu:=λ _=>True) U (A0 U) (by omega) U Tryz.call17 U U (A0 U) (λ w M hX=>by have:=Q4 QC (BU q i) w M hX.st.sat (hg.low hX.st.low) (by omega);rw[e0]at this;exact this) (λ _=>rfl) λ h3 _=>?_
  refine A8 U (A0 U) (by omega) (λ hb2=>?_) (λ hb2=>?_)<;>simp only[zb]at hb2
  ·refine BG U (A0 U) (by omega) Tryz.call16 U U (A0 U) (λ _ w M hX=>YB w (hg.low hX.st.low)) U ?_
   refine AE hB U U (A0 U) (by omega) U (A0 U) λ w M hX=>⟨?_,hX.st.low⟩
   show Ending.returned (.bool _)=_
   rw[hmany];simp
  ·omega
 ·have e0:=hp.2 (by omega)
  refine NF (λ h:AO=>.tu [.sl 3 h.v,I (len (BL q)*64+IU q),I 3]) [3] (Fg:=λ h=>[(0,CJ h.v [])]) (pu:=λ _=>True) U (A0 U) (by omega) U Tryz.call17 U U (A0 U) (λ w M hX=>by have:=Q4 QC (BU q i) w M hX.st.sat (hg.low hX.st.low) (by omega);rw[e0]at this;exact this) (λ _=>rfl) λ h3 _=>?_
  refine A8 U (A0 U) (by omega) (λ hb2=>?_) (λ hb2=>?_)<;>simp only[zb]at hb2
  ·omega
  ·refine CZ (.v (.int .u8 q)) U (A0 U) (by omega) U (λ w M hX=>PV.O9 (AI (v:=.v (.int .u8 kd)) (E:=[]) U (A0 U)) (AI (v:=.v (.int .u8 5)) (E:=[]) U (A0 U)) (λ _=>by omega) (λ _=>hq)) ?_
   refine A8 U (A0 U) (by omega) (λ hb3=>?_) (λ hb3=>?_)<;>simp only[zb]at hb3
   ·refine BG U (A0 U) (by omega) Tryz.call16 U U (A0 U) (λ _ w M hX=>YB w (hg.low hX.st.low)) U ?_
    refine AE hB U U (A0 U) (by omega) U (A0 U) λ w M hX=>⟨?_,hX.st.low⟩
    show Ending.returned (.bool _)=_
    rw[hoff,if_pos hb3];simp[len];omega
   ·refine BG U (A0 U) (by omega) Tryz.call16 U U (A0 U) (λ _ w M hX=>YB w (hg.low hX.st.low)) U ?_
    refine AE hB U U (A0 U) (by omega) U (A0 U) λ w M hX=>⟨?_,hX.st.low⟩
    show Ending.returned (.bool _)=_
    rw[hoff,if_neg hb3];simp[len]
end Go.Proofs.YtmjpjbmeamnfpaaGreatDoor
set_option maxRecDepth 100000
namespace Go.Proofs.YtmjpjbmeamnfpaaGreatDoor.schemaNest
open Go.ChangeShapes Go.WideShapes Go.ChangeAt Go.RowKit Go.Eng
noncomputable abbrev jP:=Tryz.prog
noncomputable abbrev jf:FuncId:=8
noncomputable abbrev FE:=Tryz.f8
noncomputable abbrev js:=Rows.schemaNestSpec
noncomputable abbrev jc:=Rows.schemaNestRow
theorem z7:jc.wf (OpenSpec.ofChange js)=true:=by kernel_rfl
theorem z8:laidOutB jP=true:=by kernel_rfl
theorem zA:mapsRowed jP=true:=by kernel_rfl
theorem zB:FE.params.all (jP.readableRec ·)=true:=by kernel_rfl
theorem zC:namedTie jP jc.named js.vars=true:=by kernel_rfl
theorem zD:(jc.stops==[])=true:=by kernel_rfl
theorem zE:(jP.stops==[])=true:=by kernel_rfl
theorem zF:(jc.knobs==[])=true:=by kernel_rfl
theorem zG:(jP.stopKnobs==[])=true:=by kernel_rfl
theorem zH:(jc.inPlace==jP.inPlace jf)=true:=by kernel_rfl
theorem zI:(jc.unfollowed==jP.unfollowed jf)=true:=by kernel_rfl
theorem zJ:(jc.recurses==jP.recurses jf)=true:=by kernel_rfl
theorem zK:(jc.named==jP.varsNamed jf)=true:=by kernel_rfl
theorem zL:(jc.maps==(FE.params.toList++js.plain.varTypes jP).any (jP.mapsRec ·))=true:=by kernel_rfl
theorem zM:(jc.ifaces==(FE.params.toList++js.plain.varTypes jP).any (jP.ifacesRec ·))=true:=by kernel_rfl
theorem zN:(jc.mapsOut==jP.mapsAmong FE.resultTypes.toList)=true:=by kernel_rfl
theorem zO:(jc.loops==(FE.params.toList++js.plain.varTypes jP).any (jP.loopsFrom ·))=true:=by kernel_rfl
theorem zP:(jc.wideKeys==(FE.params.toList++js.plain.varTypes jP++FE.resultTypes.toList).any (jP.wideKeysFrom ·))=true:=by kernel_rfl
theorem zQ:js.vars.all (jP.varReadable ·)=true:=by kernel_rfl
theorem zR:FE.resultTypes.all (λ t=>jP.readableRec t&&decide (t<jP.types.size))=true:=by kernel_rfl
theorem zS:(jc.ifacesOut==FE.resultTypes.toList.any (jP.ifacesRec ·))=true:=by kernel_rfl
theorem zT:(jc.loopsOut==FE.resultTypes.toList.any (jP.loopsFrom ·))=true:=by kernel_rfl
theorem zU:(jc.plainKeys==jP.plainKeys)=true:=by kernel_rfl
theorem zV:jc.shortTexts.isNone=true:=by kernel_rfl
theorem zW:jP.stopsHeard=true:=by kernel_rfl
theorem zX:jP.mayEnter=true:=by kernel_rfl
theorem zY:(jc.lifted==jP.liftsFinal)=true:=by kernel_rfl
theorem zZ:(jP.make==some jc.make)=true:=by kernel_rfl
theorem AA0:(jc.kinds==(if jc.domain.isEmpty then []else FE.params.toList.map λ t=>match jP.underlying t with|some (.int k)=>some k|_=>none))=true:=by kernel_rfl
theorem AA1:(jc.pinned==jc.pinnedBy)=true:=by kernel_rfl
theorem AA2:(jc.veiled==(FE.params.toList++js.plain.varTypes jP++FE.resultTypes.toList).any (jP.veiledRec ·))=true:=by kernel_rfl
theorem AA3:jc.veiledFits jP FE.params.toList (FE.params.toList++js.plain.varTypes jP++FE.resultTypes.toList)=true:=by kernel_rfl
theorem CF{a b:Bool}(h:a=true)(h2:b=true):(a&&b)=true:=by rw[h,h2];rfl
theorem AA4:joinedFacts jP jf FE js jc=true:=(CF (CF (CF (CF (CF (CF (CF (CF (CF (CF (CF (CF (CF (CF (CF (CF (CF (CF (CF (CF (CF (CF (CF (CF (CF (CF (CF (CF (CF (CF (CF z7 z8) zA) zB) zC) zD) zE) zF) zG) zH) zI) zJ) zK) zL) zM) zN) zO) zP) zQ) zR) zS) zT) zU) zV) zW) zX) zY) zZ) AA0) AA1) AA2) AA3)
end Go.Proofs.YtmjpjbmeamnfpaaGreatDoor.schemaNest
