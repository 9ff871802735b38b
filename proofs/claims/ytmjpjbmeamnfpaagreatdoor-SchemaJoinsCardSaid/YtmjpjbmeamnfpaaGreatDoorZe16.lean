/-
  Parts P3 Hex, put together and made short by wip/py/merge.py (mini.py).
-/
import Derived.Test.YtmjpjbmeamnfpaaGreatDoorZe4
import Derived.Laws.BitsLemmas
import Derived.Test.YtmjpjbmeamnfpaaGreatDoorZe3
import Derived.Test.YtmjpjbmeamnfpaaGreatDoorProg
import Derived.Test.YtmjpjbmeamnfpaaGreatDoorZe15
import Derived.Test.YtmjpjbmeamnfpaaGreatDoorZe13
import Derived.Laws.BitsAllLaws
import Derived.Test.YtmjpjbmeamnfpaaGreatDoorZe0
set_option linter.unusedVariables false
set_option linter.unusedSimpArgs false
set_option maxRecDepth 100000
namespace Go.Proofs.YtmjpjbmeamnfpaaGreatDoor
open Go.Eng
abbrev BQ(r:Int):List Int:=Lib.encodeRuneZ r
theorem uN{w wv:World}{M0 M:Mem}{Rs:List HO}(l:List Int)(r:Int)(v:Value)(hS:St w M0 wv M (.own 5 1 v l.length (l.flatMap AU)::Rs))(hl:len l<=70368744177664)(hr:128<=r/\r<=1114111):
  Calls Tryz.prog 198 [v,(.int .i32 r)].toArray wv λ e w'=> ∃v,e= .returned v/\ ∃M',St w M0 w' M' (.own 5 1 v (l++BQ r).length ((l++BQ r).flatMap AU)::Rs)/\M.le M':=by
 refine CW.C4 Tryz.func198 U Tryz.ntmps198 (Nat.le_of_ble_eq_true U) λ Q hE=>?_
 have:=A8 l
 refine CW.weaken [0,1] (L':=[Y 0 v,Y 1 (.int .i32 r)]) ?_ U
 refine CW.sr ?_
 have hS1:=hS.IM 5 1
 refine RL.u (.assign .c) U (RL.nil (CW.id ?_))
 refine CW.sr (RL.m U U (RL.u (.BU (r:=r) (.t U) Tryz.underlying21 Tryz.underlying93 (λ _=>by exact Eng.wrap_u32 (by omega))) U (RL.a U U (RL.nil (CW.id (CW.block ?_))))))
 refine CW.sr (RL.m U U (RL.u (.leq (.t U) .c) U (RL.a U U (RL.nil (CW.id ?_)))))
 refine CW.cond rfl ?_ ?_<;>intro hb1<;>try simp only[zb]at hb1
 ·refine CW.sr (RL.m U U (RL.m U U (RL.u (.bin (v:=.int .i32 (r/64)) (.t U) .c (λ _ w _=>by simp[go_sem,binOp])) U (RL.u (.BU (r:=(r/64)%256) (.t U) Tryz.underlying21 Tryz.underlying5 (λ _=>IntKind.wrap_u8 _)) U (RL.u (.bin (v:=.int .u8 (192+((r/64)%256))) .c (.t U) (λ hW w _=>by simp[go_sem,binOp];first|exact u8_or192 _ (by omega) (by omega)|(have hB:=u8_or192 _ (by omega) (by omega);omega))) U (RL.m U U (RL.u (.BU (r:=r%256) (.t U) Tryz.underlying21 Tryz.underlying5 (λ _=>IntKind.wrap_u8 _)) U (RL.u (.bin (v:=.int .u8 ((r%256)%64)) (.t U) .c (λ hW w _=>by simp[go_sem,binOp];first|exact u8_and63 (r%256) (by omega) (by omega)|(have hB:=u8_and63 (r%256) (by omega) (by omega);omega))) U (RL.u (.bin (v:=.int .u8 (128+((r%256)%64))) .c (.t U) (λ hW w _=>by simp[go_sem,binOp];first|exact u8_or128 _ (by omega) (by omega)|(have hB:=u8_or128 _ (by omega) (by omega);omega))) U ?_)))))))))
  refine RL.buildSlice (n:=2) (sz:=1) (e:=5) (vs:=[(0,(.int .u8 (192+((r/64)%256)))),(1,(.int .u8 (128+((r%256)%64))))]) (cs:=[(.int .u8 (192+((r/64)%256))),(.int .u8 (128+((r%256)%64)))]) hS1 (.cons (.t U) (.cons (.t U) .nil)) U U (λ w=>by kernel_rfl) U (λ v2 w3 M4 hS5 hle6=>?_)
  refine RL.K6 (f:=AU) (l:=l) (m:=([192+((r/64)%256),128+((r%256)%64)]:List Int)) hS5 (k:=2) U (.t U) (.t U) (hS5.sl (i:=0) U) Tryz.underlying110 Tryz.type5 U U U K7 (by':=1) U U (by simp only[AG,AK,len_nil];omega) U (Hs':=λ v'=>(.own 5 1 v2 (([192+((r/64)%256),128+((r%256)%64)]:List Int)).length ((([192+((r/64)%256),128+((r%256)%64)]:List Int)).flatMap AU):: .own 5 1 (.slice none 0 0) (([]:List Int)).length ((([]:List Int)).flatMap AU):: .own 5 1 v' (l++([192+((r/64)%256),128+((r%256)%64)]:List Int)).length ((l++([192+((r/64)%256),128+((r%256)%64)]:List Int)).flatMap AU)::Rs)) (λ _=>rfl) (λ v7 w8 M9 hS10 hle11=>?_)
  refine RL.a U U (RL.nil (CW.id ?_))
  refine CW.ret (hE.r1 U U ?_)
  replace hS10:=(hS10.erase 1 U).erase 0 U
  refine⟨_,rfl,M9,?_,(hle6.trans hle11)⟩
  have he:BQ r=([192+((r/64)%256),128+((r%256)%64)]:List Int):=by
   refine(show BQ r=_ from Lib.encodeRuneZ_two (by omega) (by omega)).trans ?_
   first|rfl|(simp only[List.cons.injEq,and_true];omega)
  rw[he];exact hS10
 ·refine CW.seq (CW.sr (RL.m U U (RL.u (.lss (.t U) .c) U (RL.a U U (RL.nil (CW.id ?_))))))
  refine CW.cond rfl ?_ ?_<;>intro hb2<;>try simp only[zb]at hb2
  ·refine CW.skip (CW.id ?_)
   refine CW.cond rfl ?_ ?_<;>intro hb3<;>try simp only[zb]at hb3
   ·refine CW.sr (RL.m U U (RL.m U U (RL.u (.bin (v:=.int .i32 (r/4096)) (.t U) .c (λ _ w _=>by simp[go_sem,binOp])) U (RL.u (.BU (r:=(r/4096)%256) (.t U) Tryz.underlying21 Tryz.underlying5 (λ _=>IntKind.wrap_u8 _)) U (RL.u (.bin (v:=.int .u8 (224+((r/4096)%256))) .c (.t U) (λ hW w _=>by simp[go_sem,binOp];first|exact u8_or224 _ (by omega) (by omega)|(have hB:=u8_or224 _ (by omega) (by omega);omega))) U (RL.m U U (RL.u (.bin (v:=.int .i32 (r/64)) (.t U) .c (λ _ w _=>by simp[go_sem,binOp])) U (RL.u (.BU (r:=(r/64)%256) (.t U) Tryz.underlying21 Tryz.underlying5 (λ _=>IntKind.wrap_u8 _)) U (RL.u (.bin (v:=.int .u8 (((r/64)%256)%64)) (.t U) .c (λ hW w _=>by simp[go_sem,binOp];first|exact u8_and63 ((r/64)%256) (by omega) (by omega)|(have hB:=u8_and63 ((r/64)%256) (by omega) (by omega);omega))) U (RL.u (.bin (v:=.int .u8 (128+(((r/64)%256)%64))) .c (.t U) (λ hW w _=>by simp[go_sem,binOp];first|exact u8_or128 _ (by omega) (by omega)|(have hB:=u8_or128 _ (by omega) (by omega);omega))) U (RL.m U U (RL.u (.BU (r:=r%256) (.t U) Tryz.underlying21 Tryz.underlying5 (λ _=>IntKind.wrap_u8 _)) U (RL.u (.bin (v:=.int .u8 ((r%256)%64)) (.t U) .c (λ hW w _=>by simp[go_sem,binOp];first|exact u8_and63 (r%256) (by omega) (by omega)|(have hB:=u8_and63 (r%256) (by omega) (by omega);omega))) U (RL.u (.bin (v:=.int .u8 (128+((r%256)%64))) .c (.t U) (λ hW w _=>by simp[go_sem,binOp];first|exact u8_or128 _ (by omega) (by omega)|(have hB:=u8_or128 _ (by omega) (by omega);omega))) U ?_))))))))))))))
    refine RL.buildSlice (n:=3) (sz:=1) (e:=5) (vs:=[(0,(.int .u8 (224+((r/4096)%256)))),(1,(.int .u8 (128+(((r/64)%256)%64)))),(2,(.int .u8 (128+((r%256)%64))))]) (cs:=[(.int .u8 (224+((r/4096)%256))),(.int .u8 (128+(((r/64)%256)%64))),(.int .u8 (128+((r%256)%64)))]) hS1 (.cons (.t U) (.cons (.t U) (.cons (.t U) .nil))) U U (λ w=>by kernel_rfl) U (λ v12 w13 M14 hS15 hle16=>?_)
    refine RL.K6 (f:=AU) (l:=l) (m:=([224+((r/4096)%256),128+(((r/64)%256)%64),128+((r%256)%64)]:List Int)) hS15 (k:=2) U (.t U) (.t U) (hS15.sl (i:=0) U) Tryz.underlying110 Tryz.type5 U U U K7 (by':=1) U U (by simp only[AG,AK,len_nil];omega) U (Hs':=λ v'=>(.own 5 1 v12 (([224+((r/4096)%256),128+(((r/64)%256)%64),128+((r%256)%64)]:List Int)).length ((([224+((r/4096)%256),128+(((r/64)%256)%64),128+((r%256)%64)]:List Int)).flatMap AU):: .own 5 1 (.slice none 0 0) (([]:List Int)).length ((([]:List Int)).flatMap AU):: .own 5 1 v' (l++([224+((r/4096)%256),128+(((r/64)%256)%64),128+((r%256)%64)]:List Int)).length ((l++([224+((r/4096)%256),128+(((r/64)%256)%64),128+((r%256)%64)]:List Int)).flatMap AU)::Rs)) (λ _=>rfl) (λ v17 w18 M19 hS20 hle21=>?_)
    refine RL.a U U (RL.nil (CW.id ?_))
    refine CW.ret (hE.r1 U U ?_)
    replace hS20:=(hS20.erase 1 U).erase 0 U
    refine⟨_,rfl,M19,?_,(hle16.trans hle21)⟩
    have he:BQ r=([224+((r/4096)%256),128+(((r/64)%256)%64),128+((r%256)%64)]:List Int):=by
     refine(show BQ r=_ from Lib.encodeRuneZ_three (by omega)).trans ?_
     first|rfl|(simp only[List.cons.injEq,and_true];omega)
    rw[he];exact hS20
   ·refine CW.sr (RL.m U U (RL.u (.gtr (.t U) .c) U (RL.m U U (RL.v (.pos U U) (.move (.t U)) U (RL.v (.pos U U) (.leq (.g U (λ h=>h)) .c) U (RL.u (.and (.t U) (.g U (λ h=>h))) U (RL.a U U (RL.nil (CW.id ?_)))))))))
    refine CW.cond rfl ?_ ?_<;>intro hb4<;>try simp only[zb]at hb4
    ·refine CW.sr (RL.m U U (RL.m U U (RL.u (.bin (v:=.int .i32 (r/262144)) (.t U) .c (λ _ w _=>by simp[go_sem,binOp])) U (RL.u (.BU (r:=(r/262144)%256) (.t U) Tryz.underlying21 Tryz.underlying5 (λ _=>IntKind.wrap_u8 _)) U (RL.u (.bin (v:=.int .u8 (240+((r/262144)%256))) .c (.t U) (λ hW w _=>by simp[go_sem,binOp];first|exact u8_or240 _ (by omega) (by omega)|(have hB:=u8_or240 _ (by omega) (by omega);omega))) U (RL.m U U (RL.u (.bin (v:=.int .i32 (r/4096)) (.t U) .c (λ _ w _=>by simp[go_sem,binOp])) U (RL.u (.BU (r:=(r/4096)%256) (.t U) Tryz.underlying21 Tryz.underlying5 (λ _=>IntKind.wrap_u8 _)) U (RL.u (.bin (v:=.int .u8 (((r/4096)%256)%64)) (.t U) .c (λ hW w _=>by simp[go_sem,binOp];first|exact u8_and63 ((r/4096)%256) (by omega) (by omega)|(have hB:=u8_and63 ((r/4096)%256) (by omega) (by omega);omega))) U (RL.u (.bin (v:=.int .u8 (128+(((r/4096)%256)%64))) .c (.t U) (λ hW w _=>by simp[go_sem,binOp];first|exact u8_or128 _ (by omega) (by omega)|(have hB:=u8_or128 _ (by omega) (by omega);omega))) U (RL.m U U (RL.u (.bin (v:=.int .i32 (r/64)) (.t U) .c (λ _ w _=>by simp[go_sem,binOp])) U (RL.u (.BU (r:=(r/64)%256) (.t U) Tryz.underlying21 Tryz.underlying5 (λ _=>IntKind.wrap_u8 _)) U (RL.u (.bin (v:=.int .u8 (((r/64)%256)%64)) (.t U) .c (λ hW w _=>by simp[go_sem,binOp];first|exact u8_and63 ((r/64)%256) (by omega) (by omega)|(have hB:=u8_and63 ((r/64)%256) (by omega) (by omega);omega))) U (RL.u (.bin (v:=.int .u8 (128+(((r/64)%256)%64))) .c (.t U) (λ hW w _=>by simp[go_sem,binOp];first|exact u8_or128 _ (by omega) (by omega)|(have hB:=u8_or128 _ (by omega) (by omega);omega))) U (RL.m U U (RL.u (.BU (r:=r%256) (.t U) Tryz.underlying21 Tryz.underlying5 (λ _=>IntKind.wrap_u8 _)) U (RL.u (.bin (v:=.int .u8 ((r%256)%64)) (.t U) .c (λ hW w _=>by simp[go_sem,binOp];first|exact u8_and63 (r%256) (by omega) (by omega)|(have hB:=u8_and63 (r%256) (by omega) (by omega);omega))) U ?_))))))))))))))))))
     refine RL.u (.bin (v:=.int .u8 (128+((r%256)%64))) .c (.t U) (λ hW w _=>by simp[go_sem,binOp];first|exact u8_or128 _ (by omega) (by omega)|(have hB:=u8_or128 _ (by omega) (by omega);omega))) U ?_
     refine RL.buildSlice (n:=4) (sz:=1) (e:=5) (vs:=[(0,(.int .u8 (240+((r/262144)%256)))),(1,(.int .u8 (128+(((r/4096)%256)%64)))),(2,(.int .u8 (128+(((r/64)%256)%64)))),(3,(.int .u8 (128+((r%256)%64))))]) (cs:=[(.int .u8 (240+((r/262144)%256))),(.int .u8 (128+(((r/4096)%256)%64))),(.int .u8 (128+(((r/64)%256)%64))),(.int .u8 (128+((r%256)%64)))]) hS1 (.cons (.t U) (.cons (.t U) (.cons (.t U) (.cons (.t U) .nil)))) U U (λ w=>by kernel_rfl) U (λ v22 w23 M24 hS25 hle26=>?_)
     refine RL.K6 (f:=AU) (l:=l) (m:=([240+((r/262144)%256),128+(((r/4096)%256)%64),128+(((r/64)%256)%64),128+((r%256)%64)]:List Int)) hS25 (k:=2) U (.t U) (.t U) (hS25.sl (i:=0) U) Tryz.underlying110 Tryz.type5 U U U K7 (by':=1) U U (by simp only[AG,AK,len_nil];omega) U (Hs':=λ v'=>(.own 5 1 v22 (([240+((r/262144)%256),128+(((r/4096)%256)%64),128+(((r/64)%256)%64),128+((r%256)%64)]:List Int)).length ((([240+((r/262144)%256),128+(((r/4096)%256)%64),128+(((r/64)%256)%64),128+((r%256)%64)]:List Int)).flatMap AU):: .own 5 1 (.slice none 0 0) (([]:List Int)).length ((([]:List Int)).flatMap AU):: .own 5 1 v' (l++([240+((r/262144)%256),128+(((r/4096)%256)%64),128+(((r/64)%256)%64),128+((r%256)%64)]:List Int)).length ((l++([240+((r/262144)%256),128+(((r/4096)%256)%64),128+(((r/64)%256)%64),128+((r%256)%64)]:List Int)).flatMap AU)::Rs)) (λ _=>rfl) (λ v27 w28 M29 hS30 hle31=>?_)
     refine RL.a U U (RL.nil (CW.id ?_))
     refine CW.ret (hE.r1 U U ?_)
     replace hS30:=(hS30.erase 1 U).erase 0 U
     exfalso;omega
    ·refine CW.sr (RL.m U U ?_)
     refine RL.buildSlice (n:=3) (sz:=1) (e:=5) (vs:=[(0,(.int .u8 239)),(1,(.int .u8 191)),(2,(.int .u8 189))]) (cs:=[(.int .u8 239),(.int .u8 191),(.int .u8 189)]) hS1 (.cons .c (.cons .c (.cons .c .nil))) U U (λ w=>by kernel_rfl) U (λ v32 w33 M34 hS35 hle36=>?_)
     refine RL.K6 (f:=AU) (l:=l) (m:=([239,191,189]:List Int)) hS35 (k:=2) U (.t U) (.t U) (hS35.sl (i:=0) U) Tryz.underlying110 Tryz.type5 U U U K7 (by':=1) U U (by simp only[AG,AK,len_nil];omega) U (Hs':=λ v'=>(.own 5 1 v32 (([239,191,189]:List Int)).length ((([239,191,189]:List Int)).flatMap AU):: .own 5 1 (.slice none 0 0) (([]:List Int)).length ((([]:List Int)).flatMap AU):: .own 5 1 v' (l++([239,191,189]:List Int)).length ((l++([239,191,189]:List Int)).flatMap AU)::Rs)) (λ _=>rfl) (λ v37 w38 M39 hS40 hle41=>?_)
     refine RL.a U U (RL.nil (CW.id ?_))
     refine CW.ret (hE.r1 U U ?_)
     replace hS40:=(hS40.erase 1 U).erase 0 U
     exfalso;omega
  ·refine CW.region (RL.m U U (RL.u (.lss .c (.t U)) U (RL.m U U (RL.v (.pos U U) (.move (.t U)) U (RL.v (.pos U U) (.leq (.g U (λ h=>h)) .c) U (RL.u (.and (.t U) (.g U (λ h=>h))) U (RL.a U U (RL.nil (CW.id ?_)))))))))
   refine CW.cond rfl ?_ ?_<;>intro hb5<;>try simp only[zb]at hb5
   ·refine CW.sr (RL.m U U (RL.m U U (RL.u (.bin (v:=.int .i32 (r/4096)) (.t U) .c (λ _ w _=>by simp[go_sem,binOp])) U (RL.u (.BU (r:=(r/4096)%256) (.t U) Tryz.underlying21 Tryz.underlying5 (λ _=>IntKind.wrap_u8 _)) U (RL.u (.bin (v:=.int .u8 (224+((r/4096)%256))) .c (.t U) (λ hW w _=>by simp[go_sem,binOp];first|exact u8_or224 _ (by omega) (by omega)|(have hB:=u8_or224 _ (by omega) (by omega);omega))) U (RL.m U U (RL.u (.bin (v:=.int .i32 (r/64)) (.t U) .c (λ _ w _=>by simp[go_sem,binOp])) U (RL.u (.BU (r:=(r/64)%256) (.t U) Tryz.underlying21 Tryz.underlying5 (λ _=>IntKind.wrap_u8 _)) U (RL.u (.bin (v:=.int .u8 (((r/64)%256)%64)) (.t U) .c (λ hW w _=>by simp[go_sem,binOp];first|exact u8_and63 ((r/64)%256) (by omega) (by omega)|(have hB:=u8_and63 ((r/64)%256) (by omega) (by omega);omega))) U (RL.u (.bin (v:=.int .u8 (128+(((r/64)%256)%64))) .c (.t U) (λ hW w _=>by simp[go_sem,binOp];first|exact u8_or128 _ (by omega) (by omega)|(have hB:=u8_or128 _ (by omega) (by omega);omega))) U (RL.m U U (RL.u (.BU (r:=r%256) (.t U) Tryz.underlying21 Tryz.underlying5 (λ _=>IntKind.wrap_u8 _)) U (RL.u (.bin (v:=.int .u8 ((r%256)%64)) (.t U) .c (λ hW w _=>by simp[go_sem,binOp];first|exact u8_and63 (r%256) (by omega) (by omega)|(have hB:=u8_and63 (r%256) (by omega) (by omega);omega))) U (RL.u (.bin (v:=.int .u8 (128+((r%256)%64))) .c (.t U) (λ hW w _=>by simp[go_sem,binOp];first|exact u8_or128 _ (by omega) (by omega)|(have hB:=u8_or128 _ (by omega) (by omega);omega))) U ?_))))))))))))))
    refine RL.buildSlice (n:=3) (sz:=1) (e:=5) (vs:=[(0,(.int .u8 (224+((r/4096)%256)))),(1,(.int .u8 (128+(((r/64)%256)%64)))),(2,(.int .u8 (128+((r%256)%64))))]) (cs:=[(.int .u8 (224+((r/4096)%256))),(.int .u8 (128+(((r/64)%256)%64))),(.int .u8 (128+((r%256)%64)))]) hS1 (.cons (.t U) (.cons (.t U) (.cons (.t U) .nil))) U U (λ w=>by kernel_rfl) U (λ v42 w43 M44 hS45 hle46=>?_)
    refine RL.K6 (f:=AU) (l:=l) (m:=([224+((r/4096)%256),128+(((r/64)%256)%64),128+((r%256)%64)]:List Int)) hS45 (k:=2) U (.t U) (.t U) (hS45.sl (i:=0) U) Tryz.underlying110 Tryz.type5 U U U K7 (by':=1) U U (by simp only[AG,AK,len_nil];omega) U (Hs':=λ v'=>(.own 5 1 v42 (([224+((r/4096)%256),128+(((r/64)%256)%64),128+((r%256)%64)]:List Int)).length ((([224+((r/4096)%256),128+(((r/64)%256)%64),128+((r%256)%64)]:List Int)).flatMap AU):: .own 5 1 (.slice none 0 0) (([]:List Int)).length ((([]:List Int)).flatMap AU):: .own 5 1 v' (l++([224+((r/4096)%256),128+(((r/64)%256)%64),128+((r%256)%64)]:List Int)).length ((l++([224+((r/4096)%256),128+(((r/64)%256)%64),128+((r%256)%64)]:List Int)).flatMap AU)::Rs)) (λ _=>rfl) (λ v47 w48 M49 hS50 hle51=>?_)
    refine RL.a U U (RL.nil (CW.id ?_))
    refine CW.ret (hE.r1 U U ?_)
    replace hS50:=(hS50.erase 1 U).erase 0 U
    refine⟨_,rfl,M49,?_,(hle46.trans hle51)⟩
    have he:BQ r=([224+((r/4096)%256),128+(((r/64)%256)%64),128+((r%256)%64)]:List Int):=by
     refine(show BQ r=_ from Lib.encodeRuneZ_three (by omega)).trans ?_
     first|rfl|(simp only[List.cons.injEq,and_true];omega)
    rw[he];exact hS50
   ·refine CW.sr (RL.m U U (RL.u (.gtr (.t U) .c) U (RL.m U U (RL.v (.pos U U) (.move (.t U)) U (RL.v (.pos U U) (.leq (.g U (λ h=>h)) .c) U (RL.u (.and (.t U) (.g U (λ h=>h))) U (RL.a U U (RL.nil (CW.id ?_)))))))))
    refine CW.cond rfl ?_ ?_<;>intro hb6<;>try simp only[zb]at hb6
    ·refine CW.sr (RL.m U U (RL.m U U (RL.u (.bin (v:=.int .i32 (r/262144)) (.t U) .c (λ _ w _=>by simp[go_sem,binOp])) U (RL.u (.BU (r:=(r/262144)%256) (.t U) Tryz.underlying21 Tryz.underlying5 (λ _=>IntKind.wrap_u8 _)) U (RL.u (.bin (v:=.int .u8 (240+((r/262144)%256))) .c (.t U) (λ hW w _=>by simp[go_sem,binOp];first|exact u8_or240 _ (by omega) (by omega)|(have hB:=u8_or240 _ (by omega) (by omega);omega))) U (RL.m U U (RL.u (.bin (v:=.int .i32 (r/4096)) (.t U) .c (λ _ w _=>by simp[go_sem,binOp])) U (RL.u (.BU (r:=(r/4096)%256) (.t U) Tryz.underlying21 Tryz.underlying5 (λ _=>IntKind.wrap_u8 _)) U (RL.u (.bin (v:=.int .u8 (((r/4096)%256)%64)) (.t U) .c (λ hW w _=>by simp[go_sem,binOp];first|exact u8_and63 ((r/4096)%256) (by omega) (by omega)|(have hB:=u8_and63 ((r/4096)%256) (by omega) (by omega);omega))) U (RL.u (.bin (v:=.int .u8 (128+(((r/4096)%256)%64))) .c (.t U) (λ hW w _=>by simp[go_sem,binOp];first|exact u8_or128 _ (by omega) (by omega)|(have hB:=u8_or128 _ (by omega) (by omega);omega))) U (RL.m U U (RL.u (.bin (v:=.int .i32 (r/64)) (.t U) .c (λ _ w _=>by simp[go_sem,binOp])) U (RL.u (.BU (r:=(r/64)%256) (.t U) Tryz.underlying21 Tryz.underlying5 (λ _=>IntKind.wrap_u8 _)) U (RL.u (.bin (v:=.int .u8 (((r/64)%256)%64)) (.t U) .c (λ hW w _=>by simp[go_sem,binOp];first|exact u8_and63 ((r/64)%256) (by omega) (by omega)|(have hB:=u8_and63 ((r/64)%256) (by omega) (by omega);omega))) U (RL.u (.bin (v:=.int .u8 (128+(((r/64)%256)%64))) .c (.t U) (λ hW w _=>by simp[go_sem,binOp];first|exact u8_or128 _ (by omega) (by omega)|(have hB:=u8_or128 _ (by omega) (by omega);omega))) U (RL.m U U (RL.u (.BU (r:=r%256) (.t U) Tryz.underlying21 Tryz.underlying5 (λ _=>IntKind.wrap_u8 _)) U (RL.u (.bin (v:=.int .u8 ((r%256)%64)) (.t U) .c (λ hW w _=>by simp[go_sem,binOp];first|exact u8_and63 (r%256) (by omega) (by omega)|(have hB:=u8_and63 (r%256) (by omega) (by omega);omega))) U ?_))))))))))))))))))
     refine RL.u (.bin (v:=.int .u8 (128+((r%256)%64))) .c (.t U) (λ hW w _=>by simp[go_sem,binOp];first|exact u8_or128 _ (by omega) (by omega)|(have hB:=u8_or128 _ (by omega) (by omega);omega))) U ?_
     refine RL.buildSlice (n:=4) (sz:=1) (e:=5) (vs:=[(0,(.int .u8 (240+((r/262144)%256)))),(1,(.int .u8 (128+(((r/4096)%256)%64)))),(2,(.int .u8 (128+(((r/64)%256)%64)))),(3,(.int .u8 (128+((r%256)%64))))]) (cs:=[(.int .u8 (240+((r/262144)%256))),(.int .u8 (128+(((r/4096)%256)%64))),(.int .u8 (128+(((r/64)%256)%64))),(.int .u8 (128+((r%256)%64)))]) hS1 (.cons (.t U) (.cons (.t U) (.cons (.t U) (.cons (.t U) .nil)))) U U (λ w=>by kernel_rfl) U (λ v52 w53 M54 hS55 hle56=>?_)
     refine RL.K6 (f:=AU) (l:=l) (m:=([240+((r/262144)%256),128+(((r/4096)%256)%64),128+(((r/64)%256)%64),128+((r%256)%64)]:List Int)) hS55 (k:=2) U (.t U) (.t U) (hS55.sl (i:=0) U) Tryz.underlying110 Tryz.type5 U U U K7 (by':=1) U U (by simp only[AG,AK,len_nil];omega) U (Hs':=λ v'=>(.own 5 1 v52 (([240+((r/262144)%256),128+(((r/4096)%256)%64),128+(((r/64)%256)%64),128+((r%256)%64)]:List Int)).length ((([240+((r/262144)%256),128+(((r/4096)%256)%64),128+(((r/64)%256)%64),128+((r%256)%64)]:List Int)).flatMap AU):: .own 5 1 (.slice none 0 0) (([]:List Int)).length ((([]:List Int)).flatMap AU):: .own 5 1 v' (l++([240+((r/262144)%256),128+(((r/4096)%256)%64),128+(((r/64)%256)%64),128+((r%256)%64)]:List Int)).length ((l++([240+((r/262144)%256),128+(((r/4096)%256)%64),128+(((r/64)%256)%64),128+((r%256)%64)]:List Int)).flatMap AU)::Rs)) (λ _=>rfl) (λ v57 w58 M59 hS60 hle61=>?_)
     refine RL.a U U ?_
     refine RL.nil (CW.at [Y 4 v57] U (CW.ret (hE.r1 U U ?_)))
     replace hS60:=(hS60.erase 1 U).erase 0 U
     refine⟨_,rfl,M59,?_,(hle56.trans hle61)⟩
     have he:BQ r=([240+((r/262144)%256),128+(((r/4096)%256)%64),128+(((r/64)%256)%64),128+((r%256)%64)]:List Int):=by
      refine(show BQ r=_ from Lib.encodeRuneZ_four (by omega) (by omega)).trans ?_
      first|rfl|(simp only[List.cons.injEq,and_true];omega)
     rw[he];exact hS60
    ·refine CW.sr (RL.m U U ?_)
     refine RL.buildSlice (n:=3) (sz:=1) (e:=5) (vs:=[(0,(.int .u8 239)),(1,(.int .u8 191)),(2,(.int .u8 189))]) (cs:=[(.int .u8 239),(.int .u8 191),(.int .u8 189)]) hS1 (.cons .c (.cons .c (.cons .c .nil))) U U (λ w=>by kernel_rfl) U (λ v62 w63 M64 hS65 hle66=>?_)
     refine RL.K6 (f:=AU) (l:=l) (m:=([239,191,189]:List Int)) hS65 (k:=2) U (.t U) (.t U) (hS65.sl (i:=0) U) Tryz.underlying110 Tryz.type5 U U U K7 (by':=1) U U (by simp only[AG,AK,len_nil];omega) U (Hs':=λ v'=>(.own 5 1 v62 (([239,191,189]:List Int)).length ((([239,191,189]:List Int)).flatMap AU):: .own 5 1 (.slice none 0 0) (([]:List Int)).length ((([]:List Int)).flatMap AU):: .own 5 1 v' (l++([239,191,189]:List Int)).length ((l++([239,191,189]:List Int)).flatMap AU)::Rs)) (λ _=>rfl) (λ v67 w68 M69 hS70 hle71=>?_)
     refine RL.a U U (RL.nil (CW.id ?_))
     refine CW.ret (hE.r1 U U ?_)
     replace hS70:=(hS70.erase 1 U).erase 0 U
     refine⟨_,rfl,M69,?_,(hle66.trans hle71)⟩
     have he:BQ r=([239,191,189]:List Int):=by
      refine(show BQ r=_ from Lib.encodeRuneZ_bad (by omega)).trans ?_
      first|rfl|(simp only[List.cons.injEq,and_true];omega)
     rw[he];exact hS70
theorem uO{w wv:World}{M0 M:Mem}{Rs:List HO}(l:List Int)(r:Int)(v:Value)(hS:St w M0 wv M (.own 5 1 v l.length (l.flatMap AU)::Rs))(hl:len l<=70368744177664)(hr:0<=r/\r<=1114111):
  Calls Tryz.prog 150 [v,(.int .i32 r)].toArray wv λ e w'=> ∃v,e= .returned v/\ ∃M',St w M0 w' M' (.own 5 1 v (l++BQ r).length ((l++BQ r).flatMap AU)::Rs)/\M.le M':=by
 refine CW.C4 Tryz.func150 U Tryz.ntmps150 (Nat.le_of_ble_eq_true U) λ Q hE=>?_
 have:=A8 l
 refine CW.weaken [0,1] (L':=[Y 0 v,Y 1 (.int .i32 r)]) ?_ U
 refine CW.sr ?_
 have hS1:=hS.IM 5 1
 refine RL.u (.assign .c) U (RL.nil (CW.id ?_))
 refine CW.seq (CW.sr (RL.m U U (RL.u (.BU (r:=r) (.t U) Tryz.underlying21 Tryz.underlying93 (λ _=>by exact Eng.wrap_u32 (by omega))) U (RL.u (.leq (.t U) .c) U (RL.nil (CW.id ?_))))))
 refine CW.cond rfl ?_ ?_<;>intro hb1<;>try simp only[zb]at hb1
 ·refine CW.sr (RL.m U U (RL.m U U (RL.u (.BU (r:=r) (.t U) Tryz.underlying21 Tryz.underlying5 (λ _=>by exact Eng.wrap_u8 (by omega))) U ?_)))
  refine RL.buildSlice (n:=1) (sz:=1) (e:=5) (vs:=[(0,(.int .u8 r))]) (cs:=[(.int .u8 r)]) hS1 (.cons (.t U) .nil) U U (λ w=>by kernel_rfl) U (λ v2 w3 M4 hS5 hle6=>?_)
  refine RL.PS (f:=AU) (l:=l) (y:=r) hS5 (k:=2) U (.t U) (.t U) (hS5.sl (i:=0) U) Tryz.underlying110 Tryz.type5 U U U K7 (by':=1) U U (by omega) U (Hs':=λ v'=>(.own 5 1 v2 (([r]:List Int)).length ((([r]:List Int)).flatMap AU):: .own 5 1 (.slice none 0 0) (([]:List Int)).length ((([]:List Int)).flatMap AU):: .own 5 1 v' (l++[r]).length ((l++[r]).flatMap AU)::Rs)) (λ _=>rfl) (λ v7 w8 M9 hS10 hle11=>?_)
  replace hS10:=hS10.erase 0 U
  refine RL.a U U (RL.nil (CW.id ?_))
  refine CW.ret (hE.r1 U U ?_)
  replace hS10:=hS10.erase 0 U
  refine⟨_,rfl,M9,?_,(hle6.trans hle11)⟩
  have he:BQ r=[r]:=by
   refine(show BQ r=_ from Lib.encodeRuneZ_one (by omega) (by omega)).trans ?_
   first|rfl|(simp only[List.cons.injEq,and_true];omega)
  rw[he];exact hS10
 ·refine CW.skip (CW.id (CW.sr (RL.m U U (RL.m U U ?_))))
  replace hS1:=hS1.front 1 U U
  refine RL.CU Tryz.call198 (.cons (.t U) (.cons (.t U) .nil)) (uN (Rs:=(.own 5 1 (.slice none 0 0) (([]:List Int)).length ((([]:List Int)).flatMap AU)::Rs)) l r v hS1 (by first|assumption|omega) (by omega)) U ?_
  rintro v12 w13 ⟨M14,hS15,hle16⟩
  refine RL.a U U ?_
  refine RL.nil (CW.at [Y 4 v12] U (CW.ret (hE.r1 U U ?_)))
  replace hS15:=hS15.erase 1 U
  exact⟨_,rfl,M14,hS15,hle16⟩
theorem uP{w:World}{b:Nat}{a v x:Value}{t:TypeId}(h:w.heap[b]? =some (.cells #[a,v] t (0,0))):w.setCell ⟨b,0,none⟩ x=w.setRow b #[x,v]:=by
 unfold World.setCell World.setRow
 congr 1
 apply Array.ext_getElem?
 intro i
 by_cases hi:b=i
 ·subst hi;simp[Array.getElem?_modify,h]
 ·simp[Array.getElem?_modify,hi]
def BR(b:Nat):Value:=.pointer (some ⟨b,0,none⟩)
theorem YX{w wv:World}{M0 M:Mem}{Rs:List HO}(b:Nat)(a v:Value)(hS:St w M0 wv M (.box b [a,v] tB::Rs))(ha:a= .pointer none\/a=BR b):
  Calls Tryz.prog 149 [.pointer (some ⟨b,0,none⟩)].toArray wv λ e w'=> ∃u,e= .returned u/\St w M0 w' M (.box b [BR b,v] tB::Rs):=by
 have hb:=(hS.obj (i:=0) U).2.1
 rcases ha with rfl|rfl
 ·refine(uM b wv (by simp[World.cell?,hb]) (by simp[World.shape?,hb]) (by simp[World.frozen?,hb])).mono λ e w' ⟨he,hw⟩=>⟨_,he,?_⟩
  rw[hw,uP hb]
  exact hS.PQ (i:=0) U [BR b,v]
 ·exact(uL b wv (by simp[World.cell?,hb,BR])).mono λ e w' ⟨he,hw⟩=>⟨_,he,hw▸hS⟩
theorem UK{w wv:World}{M0 M:Mem}{Rs:List HO}(b:Nat)(a:Value)(l:List Int)(c:Int)(v:Value)(hS:St w M0 wv M (.box b [a,v] 163:: .own 5 1 v l.length (l.flatMap AU)::Rs))(ha:a= .pointer none\/a=BR b)(hl:len l<=35184372088832)(hc:0<=c/\c<=255):
  Calls Tryz.prog 282 [(.pointer (some ⟨b,0,none⟩)),(.int .u8 c)].toArray wv λ e w'=> ∃u,e= .returned u/\ ∃v' M',u= .nilIface/\St w M0 w' M' (.box b [BR b,v'] 163:: .own 5 1 v' (l++[c]).length ((l++[c]).flatMap AU)::Rs)/\M.le M':=by
 refine CW.C4 Tryz.func282 U Tryz.ntmps282 (Nat.le_of_ble_eq_true U) λ Q hE=>?_
 have:=A8 l
 refine CW.weaken [0,1] (L':=[Y 0 (.pointer (some ⟨b,0,none⟩)),Y 1 (.int .u8 c)]) ?_ U
 refine CW.sr (RL.u (.assign .c) U (RL.nil (CW.id (CW.sr ?_))))
 refine RL.m U U ?_
 replace hS:=hS.front 0 U U
 refine RL.CU Tryz.call149 (.cons (.t U) .nil) (YX (Rs:=(.own 5 1 v l.length (l.flatMap AU)::Rs)) b a v hS (by first|assumption|exact Or.inr U|exact Or.inl U)) U ?_
 rintro v1 w2 hS4
 refine RL.nil (CW.at [Y 0 (.pointer (some ⟨b,0,none⟩)),Y 1 (.int .u8 c)] U (CW.sr (RL.m U U (RL.m U U (RL.u (.GS (.t U)) U (RL.u (.FQ (q:=⟨b,1,none⟩) (.t U) (λ w=>by kernel_rfl)) U (RL.u (.D8 (v:=v) hS4 BG (i:=0) U (.t U) Tryz.isAgg110 U) U (RL.m U U ?_))))))))
 refine RL.buildSlice (n:=1) (sz:=1) (e:=5) (vs:=[(0,(.int .u8 c))]) (cs:=[(.int .u8 c)]) hS4 (.cons (.t U) .nil) U U (λ w=>by kernel_rfl) U (λ v6 w7 M8 hS9 hle10=>?_)
 refine RL.PS (f:=AU) (l:=l) (y:=c) hS9 (k:=2) U (.t U) (.t U) (hS9.sl (i:=0) U) Tryz.underlying110 Tryz.type5 U U U K7 (by':=1) U U (by omega) U (Hs':=λ v'=>(.own 5 1 v6 (([c]:List Int)).length ((([c]:List Int)).flatMap AU):: .box b [(BR b),v] 163:: .own 5 1 v' (l++[c]).length ((l++[c]).flatMap AU)::Rs)) (λ _=>rfl) (λ v11 w12 M13 hS14 hle15=>?_)
 replace hS14:=hS14.erase 0 U
 refine RL.u (.GS (.t U)) U (RL.u (.FQ (q:=⟨b,1,none⟩) (.t U) (λ w=>by kernel_rfl)) U ?_)
 refine RL.W8 (v:=v11) hS14 (hS14.sl (i:=1) U) (i:=0) U (.t U) (.t U) Tryz.sizeOf110 U (cs':=[(BR b),v11]) U (Hs':=(.box b [(BR b),v11] 163:: .own 5 1 v11 (l++[c]).length ((l++[c]).flatMap AU)::Rs)) U (λ w16 hS17=>(RL.nil (CW.id ?_)))
 refine CW.sr (RL.u (.assign .c) U (RL.nil (CW.id (CW.ret (hE.r1 U U ?_)))))
 exact⟨_,rfl,_,M13,rfl,hS17,(hle10.trans hle15)⟩
theorem YY{w wv:World}{M0 M:Mem}{Rs:List HO}(b:Nat)(a:Value)(l:List Int)(s:A1)(v:Value)(hS:St w M0 wv M (.box b [a,v] 163:: .own 5 1 v l.length (l.flatMap AU)::Rs))(ha:a= .pointer none\/a=BR b)(hl:len l<=35184372088832)(hc:len s<=35184372088832):
  Calls Tryz.prog 218 [(.pointer (some ⟨b,0,none⟩)),(str s)].toArray wv λ e w'=> ∃u,e= .returned u/\ ∃v' M',u= .tuple #[i64 (len s),.nilIface]/\St w M0 w' M' (.box b [BR b,v'] 163:: .own 5 1 v' (l++ints s).length ((l++ints s).flatMap AU)::Rs)/\M.le M':=by
 refine CW.C4 Tryz.func218 U Tryz.ntmps218 (Nat.le_of_ble_eq_true U) λ Q hE=>?_
 have:=A8 l
 refine CW.weaken [0,1] (L':=[Y 0 (.pointer (some ⟨b,0,none⟩)),Y 1 (str s)]) ?_ U
 refine CW.sr (RL.u (.assign .c) U (RL.u (.assign .c) U (RL.nil (CW.id (CW.sr ?_)))))
 refine RL.m U U ?_
 replace hS:=hS.front 0 U U
 refine RL.CU Tryz.call149 (.cons (.t U) .nil) (YX (Rs:=(.own 5 1 v l.length (l.flatMap AU)::Rs)) b a v hS (by first|assumption|exact Or.inr U|exact Or.inl U)) U ?_
 rintro v1 w2 hS4
 refine RL.nil (CW.at [Y 0 (.pointer (some ⟨b,0,none⟩)),Y 1 (str s)] U (CW.sr (RL.m U U (RL.m U U (RL.u (.GS (.t U)) U (RL.u (.FQ (q:=⟨b,1,none⟩) (.t U) (λ w=>by kernel_rfl)) U (RL.u (.D8 (v:=v) hS4 BG (i:=0) U (.t U) Tryz.isAgg110 U) U (RL.m U U ?_))))))))
 refine RL.o7 (l:=l) (s:=s) hS4 (k:=1) U (.t U) (.t U) Tryz.underlying110 Tryz.underlying9 Tryz.type5 U U U (by omega) U (Hs':=λ v'=>(.box b [(BR b),v] 163:: .own 5 1 v' (l++ints s).length ((l++ints s).flatMap AU)::Rs)) (λ _=>rfl) (λ v6 w7 M8 hS9 hle10=>?_)
 refine RL.u (.GS (.t U)) U (RL.u (.FQ (q:=⟨b,1,none⟩) (.t U) (λ w=>by kernel_rfl)) U ?_)
 refine RL.W8 (v:=v6) hS9 (hS9.sl (i:=1) U) (i:=0) U (.t U) (.t U) Tryz.sizeOf110 U (cs':=[(BR b),v6]) U (Hs':=(.box b [(BR b),v6] 163:: .own 5 1 v6 (l++ints s).length ((l++ints s).flatMap AU)::Rs)) U (λ w11 hS12=>(RL.nil (CW.id ?_)))
 refine CW.sr (RL.m U U (RL.u (.DD (.t U) Tryz.underlying9) U (RL.a U U (RL.u (.assign .c) U (RL.nil (CW.id (CW.ret (hE.r2 U U U ?_))))))))
 exact⟨_,rfl,_,M8,rfl,hS12,hle10⟩
theorem YZ{w wv:World}{M0 M:Mem}{Rs:List HO}(b:Nat)(a:Value)(l:List Int)(r:Int)(v:Value)(hS:St w M0 wv M (.box b [a,v] 163:: .own 5 1 v l.length (l.flatMap AU)::Rs))(ha:a= .pointer none\/a=BR b)(hl:len l<=35184372088832)(hc:0<=r/\r<=1114111):
  Calls Tryz.prog 112 [(.pointer (some ⟨b,0,none⟩)),(.int .i32 r)].toArray wv λ e w'=> ∃u,e= .returned u/\ ∃v' M',u= .tuple #[i64 (len (BQ r)),.nilIface]/\St w M0 w' M' (.box b [BR b,v'] 163:: .own 5 1 v' (l++BQ r).length ((l++BQ r).flatMap AU)::Rs)/\M.le M':=by
 refine CW.C4 Tryz.func112 U Tryz.ntmps112 (Nat.le_of_ble_eq_true U) λ Q hE=>?_
 have:=A8 l
 have hz:=Lib.encodeRuneZ_length r
 have hz2:1<=len (BQ r)/\len (BQ r)<=4:=by unfold len BQ;omega
 refine CW.weaken [0,1] (L':=[Y 0 (.pointer (some ⟨b,0,none⟩)),Y 1 (.int .i32 r)]) ?_ U
 refine CW.sr (RL.u (.assign .c) U (RL.u (.assign .c) U (RL.nil (CW.id (CW.sr ?_)))))
 refine RL.m U U ?_
 replace hS:=hS.front 0 U U
 refine RL.CU Tryz.call149 (.cons (.t U) .nil) (YX (Rs:=(.own 5 1 v l.length (l.flatMap AU)::Rs)) b a v hS (by first|assumption|exact Or.inr U|exact Or.inl U)) U ?_
 rintro v1 w2 hS4
 refine RL.nil (CW.at [Y 0 (.pointer (some ⟨b,0,none⟩)),Y 1 (.int .i32 r)] U (CW.sr (RL.m U U (RL.u (.GS (.t U)) U (RL.u (.FQ (q:=⟨b,1,none⟩) (.t U) (λ w=>by kernel_rfl)) U (RL.u (.D8 (v:=v) hS4 BG (i:=0) U (.t U) Tryz.isAgg110 U) U (RL.u (.NO (hS4.sl (i:=1) U) (.t U) ⟨_,Tryz.underlying110⟩) U (RL.a U U (RL.nil (CW.id ?_))))))))))
 refine CW.sr (RL.m U U (RL.m U U (RL.u (.GS (.t U)) U (RL.u (.FQ (q:=⟨b,1,none⟩) (.t U) (λ w=>by kernel_rfl)) U (RL.u (.D8 (v:=v) hS4 BG (i:=0) U (.t U) Tryz.isAgg110 U) U (RL.m U U ?_))))))
 replace hS4:=hS4.front 1 U U
 refine RL.CU Tryz.call150 (.cons (.t U) (.cons (.t U) .nil)) (uO (Rs:=(.box b [(BR b),v] 163::Rs)) l r v hS4 (by first|assumption|omega) (by omega)) U ?_
 rintro v6 w7 ⟨M8,hS9,hle10⟩
 refine RL.u (.GS (.t U)) U (RL.u (.FQ (q:=⟨b,1,none⟩) (.t U) (λ w=>by kernel_rfl)) U ?_)
 refine RL.W8 (v:=v6) hS9 (hS9.sl (i:=0) U) (i:=1) U (.t U) (.t U) Tryz.sizeOf110 U (cs':=[(BR b),v6]) U (Hs':=(.own 5 1 v6 (l++BQ r).length ((l++BQ r).flatMap AU):: .box b [(BR b),v6] 163::Rs)) U (λ w11 hS12=>?_)
 refine RL.nil (CW.at [Y 0 (.pointer (some ⟨b,0,none⟩)),Y 6 (i64 (len l))] U (CW.sr (RL.m U U (RL.u (.GS (.t U)) U (RL.u (.FQ (q:=⟨b,1,none⟩) (.t U) (λ w=>by kernel_rfl)) U (RL.u (.D8 (v:=v6) hS12 BG (i:=1) U (.t U) Tryz.isAgg110 U) U (RL.u (.NO (hS12.sl (i:=0) U) (.t U) ⟨_,Tryz.underlying110⟩) U (RL.m U U (RL.u (.sub (.t U) (.t U) (λ _=>by first|omega|(simp only[AG,AK,len_nil];omega))) U (RL.a U U (RL.u (.assign .c) U (RL.nil (CW.id ?_)))))))))))))
 refine CW.ret (hE.r2 U U U ?_)
 replace hS12:=(hS12.front 0 U U).front 1 U U
 exact⟨_,rfl,_,M8,by rw[AG,show len l+len (BQ r)-len l=len (BQ r)from by omega],hS12,hle10⟩
end Go.Proofs.YtmjpjbmeamnfpaaGreatDoor
namespace Go.Proofs.YtmjpjbmeamnfpaaGreatDoor
open Go.Eng
def D2(c:Int):Int:=((c.toNat|||32:Nat):Int)
theorem uQ{c:Int}(h0:0<=c)(h1:c<=255):bits .or .u8 c 32=D2 c:=u8_or c 32 h0 (by omega) (by decide) (by decide)
def gM(c:Int):Bool:=
 decide (D2 c<=255)&&(decide (48<=c/\c<=57)||(if 97<=D2 c/\D2 c<=122 then(if D2 c<=102 then decide (F9 c=D2 c-87)else decide (F9 c= -1))else decide (F9 c= -1)))
theorem uR:(List.range 256).all (λ n=>gM (n:Int))=true:=by decide+kernel
theorem uS{c:Int}(h0:0<=c)(h1:c<=255):(0<=D2 c/\D2 c<=255)/\(97<=D2 c->D2 c<=122-> ¬(48<=c/\c<=57)->(D2 c<=102->F9 c=D2 c-87)/\(102<D2 c->F9 c= -1))/\
  (¬(97<=D2 c/\D2 c<=122)-> ¬(48<=c/\c<=57)->F9 c= -1):=by
 have h:=List.all_eq_true.1 uR c.toNat (List.mem_range.2 (by omega))
 rw[show((c.toNat:Nat):Int)=c from by omega]at h
 have hz:0<=D2 c:=by unfold D2;omega
 unfold gM at h
 simp only[Bool.and_eq_true,Bool.or_eq_true,decide_eq_true_eq]at h
 generalize D2 c=y at*
 generalize F9 c=z at*
 refine⟨⟨hz,h.1⟩,λ h2 h3 h4=>?_,λ h2 h4=>?_⟩
 ·rcases h.2 with h5|h5
  ·exact absurd h5 h4
  ·rw[if_pos ⟨h2,h3⟩]at h5
   constructor
   ·intro h6;rw[if_pos h6]at h5;simpa using h5
   ·intro h6;rw[if_neg (by omega)]at h5;simpa using h5
 ·rcases h.2 with h5|h5
  ·exact absurd h5 h4
  ·rw[if_neg h2]at h5;simpa using h5
theorem uT{c:Int}(h:48<=c/\c<=57):F9 c=c-48:=by unfold F9;rw[if_pos h]
theorem ints_at{s:A1}{k:Int}(h0:0<=k)(h1:k<len s):at' (ints s) k=A2 s k:=by
 have h:k.toNat<s.length:=by unfold len at h1;omega
 simp[at',ints,A2,h]
abbrev gN:A1:=[48,49,50,51,52,53,54,55,56,57,97,98,99,100,101,102,103,104,105,106,107,108,109,110,111,112,113,114,115,116,117,118,119,120,121,122]
theorem uU: ∀n:Nat,n<16->A2 gN (n:Int)=EO (n:Int):=by decide+kernel
theorem gO{n:Int}(h0:0<=n)(h1:n<16):A2 gN n=EO n:=by
 have:=uU n.toNat (by omega)
 rwa [show((n.toNat:Nat):Int)=n from by omega]at this
theorem UL(x:Int)(h0:0<=x)(h1:x<18446744073709551616):bits .and .u64 x 15=x%16:=by
 rw[u64_and x 15 h0 h1 (by decide) (by decide)]
 have h:x.toNat&&& 15=x.toNat%16:=Nat.and_two_pow_sub_one_eq_mod x.toNat 4
 show((x.toNat&&& (15:Nat):Nat):Int)=_
 rw[h];omega
theorem uV{l:A1}{k:Int}(hl:len l=4)(h0:0<=k)(h1:k<4)(h:EH (Eng.sub l 0 k)=true):0<=FM (Eng.sub l 0 k)/\FM (Eng.sub l 0 k)<=4095:=
 tS h (by rw[FX (by omega) (by omega) (by omega)];omega)
end Go.Proofs.YtmjpjbmeamnfpaaGreatDoor
