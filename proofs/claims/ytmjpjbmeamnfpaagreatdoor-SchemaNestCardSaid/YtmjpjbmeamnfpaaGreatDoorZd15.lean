/-
  Parts P2 Bld P3 Hex, put together and made short by wip/py/merge.py (mini.py).
-/
import Derived.Test.YtmjpjbmeamnfpaaGreatDoorZd4
import Derived.Laws.BitsLemmas
import Derived.Test.YtmjpjbmeamnfpaaGreatDoorZd3
import Derived.Test.YtmjpjbmeamnfpaaGreatDoorProg
import Derived.Test.YtmjpjbmeamnfpaaGreatDoorZd13
import Derived.Test.YtmjpjbmeamnfpaaGreatDoorZd9
import Derived.Test.YtmjpjbmeamnfpaaGreatDoorZd14
import Derived.Shelf.Strings.Builder1
import Derived.Shelf.Strings.BuilderRune
import Derived.Laws.BitsAllLaws
import Derived.Test.YtmjpjbmeamnfpaaGreatDoorZd0
set_option linter.unusedVariables false
set_option linter.unusedSimpArgs false
set_option maxRecDepth 100000
namespace Go.Proofs.YtmjpjbmeamnfpaaGreatDoor
open Go.Eng
theorem dM(r:Int)(w:World):
  Calls Tryz.prog 117 [(.int .i32 r)].toArray w λ e w'=>e= .returned (.bool (C9 r))/\w'=w:=by
 refine CW.BV Tryz.func117 U Tryz.ntmps117 (Nat.le_of_ble_eq_true U) λ Q hE=>?_
 refine CW.weaken [0] (L':=[Y 0 (.int .i32 r)]) ?_ U
 refine CW.sr (RL.u (.assign .c) U (RL.nil (CW.id (CW.sr ?_))))
 refine RL.m U U (RL.u (.geq (.t U) .c) U (RL.m U U (RL.v (.pos U U) (.move (.t U)) U (RL.v (.pos U U) (.leq (.g U (λ h=>h)) .c) U (RL.u (.and (.t U) (.g U (λ h=>h))) U ?_)))))
 refine RL.a U U (RL.nil (CW.id ?_))
 refine CW.ret (hE.r1 U U ?_)
 exact⟨rfl,rfl⟩
theorem PO{cut:A1}(h: ∀b∈cut,b.toNat<128): ∀(j:Nat) (b:UInt8),cut[j]? =some b->b.toNat<128:=λ _ b hb=>h b (List.mem_of_getElem? hb)
theorem dN(s:A1)(w:World)(hg:Gl w)(hb:len s<=9223372036854775807):
  Calls Tryz.prog 158 [(str s)].toArray w λ e w'=>e= .returned (.bool (H0 s))/\Ext w w':=by
 refine CW.BV Tryz.func158 U Tryz.ntmps158 (Nat.le_of_ble_eq_true U) λ Q hE=>?_
 have hS:St w nM w nM []:=St.start ⟨λ _ _ _ h=>by cases h⟩
 refine CW.weaken [0] (L':=[Y 0 (str s)]) ?_ U
 refine CW.sr (RL.u (.assign .c) U (RL.nil (CW.id (CW.sr ?_))))
 refine RL.m U U ?_
 refine RL.DP hS .none Tryz.call210 (.cons (.t U) (.cons .f .nil)) (λ _=>(lK 117 C0 s _ (hg.low hS.low) Tryz.call117 (by omega) (λ x w _=>dM x w))) U (λ w1 hS2=>?_)
 refine RL.u (.QJ (.t U) .c) U (RL.a U U ?_)
 refine RL.nil (CW.at [Y 2 (.bool (((Lib.trimF C0 ⟨⟨s⟩⟩).data.toList)==[]))] U (CW.ret (hE.r1 U U ?_)))
 exact⟨by rw[rB],hS2.low⟩
theorem dO(n x:Int)(w:World)(h:0<=n/\n<=1099511627776):
  Calls Tryz.prog 160 [(i64 n),(i64 x)].toArray w λ e w'=>e= .returned (.bool (decide (-1000<=x)&&decide (x<=1000)&&decide (n+x<=1000)))/\w'=w:=by
 refine CW.BV Tryz.func160 U Tryz.ntmps160 (Nat.le_of_ble_eq_true U) λ Q hE=>?_
 refine CW.weaken [0,1] (L':=[Y 0 (i64 n),Y 1 (i64 x)]) ?_ U
 refine CW.sr (RL.u (.assign .c) U (RL.nil (CW.id (CW.sr ?_))))
 refine RL.m U U (RL.u (.geq (.t U) .c) U (RL.m U U (RL.v (.pos U U) (.move (.t U)) U (RL.v (.pos U U) (.leq (.g U (λ h=>h)) .c) U (RL.u (.and (.t U) (.g U (λ h=>h))) U ?_)))))
 refine RL.m U U (RL.v (.pos U U) (.move (.t U)) U (RL.v (.pos U U) (.move (.t U)) U (RL.v (.pos U U) (.add (.g U (λ h=>h)) (.g U (λ h=>h)) (λ hW=>by simp only[zb]at hW;omega)) U (RL.v (.pos U U) (.leq (.g U (λ h=>h)) .c) U (RL.u (.and (.t U) (.g U (λ h=>h))) U ?_)))))
 refine RL.a U U (RL.nil (CW.id ?_))
 refine CW.ret (hE.r1 U U ?_)
 exact⟨by first|rfl|simp[Bool.and_assoc],rfl⟩
theorem rC{w wv:World}{M0 M:Mem}{Rs:List HO}(s:A1)(p:Int)(bp bs:Nat)(hS:St w M0 wv M (.box bp [(i64 p)] 3:: .box bs [(str s)] 9::Rs))(h0:0<=p)(h1:p<=len s)(hb:len s<=9223372036854775807):
  Calls Tryz.prog 116 [(.pointer (some ⟨bp,0,none⟩)),(.pointer (some ⟨bs,0,none⟩))].toArray wv λ e w'=> ∃v,e= .returned v/\v=str (Eng.sub s p (AG s p))/\St w M0 w' M (.box bp [i64 (AG s p)] 3:: .box bs [str s] 9::Rs):=by
 refine CW.BV Tryz.func116 U Tryz.ntmps116 (Nat.le_of_ble_eq_true U) λ Q hE=>?_
 have hbd:=IA s p h0 h1
 refine CW.weaken [0,1] (L':=[Y 0 (.pointer (some ⟨bp,0,none⟩)),Y 1 (.pointer (some ⟨bs,0,none⟩))]) ?_ U
 refine CW.sr (RL.u (.assign .c) U (RL.nil (CW.id (CW.sr ?_))))
 refine RL.u (.CY (v:=(i64 p)) hS B8 (i:=0) U (.t U) Tryz.isAgg3 U) U (RL.a U U (RL.nil (CW.id ?_)))
 refine CW.seq (CW.block ?_)
 refine CW.loop (σ:=Int) (λ k=>[Y 0 (.pointer (some ⟨bp,0,none⟩)),Y 1 (.pointer (some ⟨bs,0,none⟩)),Y 3 (i64 p)]) (λ k wl=>St w M0 wl M (.box bp [(i64 k)] 3:: .box bs [(str s)] 9::Rs)/\p<=k/\k<=len s/\AG s k=AG s p) (λ k=>(len s-k).toNat) p [0,1,3] U ?_ ?_
 ·refine⟨hS,?_⟩;exact⟨by omega,by omega,rfl⟩
 ·rintro k wl ⟨hS1,hk0,hk1,hkF⟩
  have hby:=ML s k
  refine CW.seq (CW.sr (RL.u (.CY (v:=(i64 k)) hS1 B8 (i:=0) U (.t U) Tryz.isAgg3 U) U (RL.u (.CY (v:=(str s)) hS1 B8 (i:=1) U (.t U) Tryz.isAgg9 U) U (RL.u (.D2 (.t U) Tryz.underlying9) U (RL.u (.lss (.t U) (.t U)) U (RL.m U U (RL.v (.pos U U) (.CY (v:=(str s)) hS1 B8 (i:=1) U (.t U) Tryz.isAgg9 U) U (RL.v (.pos U U) (.CY (v:=(i64 k)) hS1 B8 (i:=0) U (.t U) Tryz.isAgg3 U) U (RL.v (.pos U U) (.DS (.g U (λ h=>h)) (.g U (λ h=>h)) Tryz.underlying9 (λ hW=>by simp only[zb]at hW;omega)) U (RL.v (.pos U U) (.BM (r:=A2 s k) (.g U (λ h=>h)) Tryz.underlying5 Tryz.underlying21 (λ hW=>by simp only[zb]at hW;exact Eng.wrap_i32 (by omega))) U ?_))))))))))
  refine RL.F1 (.pos U U) Tryz.call117 (.cons (.g U (λ h=>h)) .nil) (λ hW=>by simp only[zb]at hW;exact(dM (A2 s k) _)) U ?_
  refine RL.u (.and (.t U) (.g U (λ h=>h))) U ?_
  refine RL.nil (CW.at [Y 0 (.pointer (some ⟨bp,0,none⟩)),Y 1 (.pointer (some ⟨bs,0,none⟩)),Y 3 (i64 p),Y 15 (.bool ((decide (k<(len s)))&&(C9 (A2 s k))))] U ?_)
  refine CW.cond rfl ?_ ?_<;>intro hb1<;>try simp only[zb]at hb1
  ·refine CW.skip (CW.id (CW.block ?_))
   refine CW.region (RL.u (.CY (v:=(i64 k)) hS1 B8 (i:=0) U (.t U) Tryz.isAgg3 U) U (RL.u (.add (.t U) .c (λ _=>by omega)) U ?_))
   refine RL.st hS1 (i:=0) U (.t U) (.t U) Tryz.sizeOf3 U U U U U (λ w2 hS3=>?_)
   refine RL.nil λ a hs=>Exists.intro (k+1) ⟨hs.BC [0,1,3],?_,?_⟩
   ·refine⟨hS3,?_⟩
    exact⟨by omega,by omega,by rw[<-hkF,aV (by omega) (by omega) hb1.2]⟩
   ·show Int.toNat _<Int.toNat _;omega
  ·refine CW.exit (CW.at [Y 0 (.pointer (some ⟨bp,0,none⟩)),Y 1 (.pointer (some ⟨bs,0,none⟩)),Y 3 (i64 p)] U ?_)
   refine CW.sr (RL.u (.CY (v:=(str s)) hS1 B8 (i:=1) U (.t U) Tryz.isAgg9 U) U (RL.m U U (RL.u (.CY (v:=(i64 k)) hS1 B8 (i:=0) U (.t U) Tryz.isAgg3 U) U (RL.u (.K9 (.t U) (.t U) (.t U) Tryz.underlying9 (λ _=>by omega)) U (RL.a U U (RL.nil (CW.id (CW.ret (hE.r1 U U ?_)))))))))
   clear hE
   have hk:k=AG s p:=by
    rw[<-hkF]
    by_cases hl:k<len s
    ·exact(aW (by omega) hl (by simp_all)).symm
    ·exact(aX (by omega)).symm
   subst hk
   exact⟨_,rfl,rfl,hS1⟩
theorem rD{w wv:World}{M0 M:Mem}{Rs:List HO}(s signs:A1)(p:Int)(bp bs:Nat)(hS:St w M0 wv M (.box bp [(i64 p)] 3:: .box bs [(str s)] 9::Rs))(h0:0<=p)(h1:p<=len s)(hb:len s<9223372036854775807):
  Calls Tryz.prog 118 [(str signs),(.pointer (some ⟨bp,0,none⟩)),(.pointer (some ⟨bs,0,none⟩))].toArray wv λ e w'=> ∃v,e= .returned v/\v= .bool (BO s signs p)/\St w M0 w' M (.box bp [i64 (AW s signs p)] 3:: .box bs [str s] 9::Rs):=by
 refine CW.BV Tryz.func118 U Tryz.ntmps118 (Nat.le_of_ble_eq_true U) λ Q hE=>?_
 have hby:=ML s p
 refine CW.weaken [0,1,2] (L':=[Y 0 (str signs),Y 1 (.pointer (some ⟨bp,0,none⟩)),Y 2 (.pointer (some ⟨bs,0,none⟩))]) ?_ U
 refine CW.sr (RL.u (.assign .c) U (RL.nil (CW.id (CW.seq ?_))))
 refine CW.sr (RL.u (.CY (v:=(i64 p)) hS B8 (i:=0) U (.t U) Tryz.isAgg3 U) U (RL.u (.CY (v:=(str s)) hS B8 (i:=1) U (.t U) Tryz.isAgg9 U) U (RL.u (.D2 (.t U) Tryz.underlying9) U (RL.u (.lss (.t U) (.t U)) U (RL.m U U (RL.v (.pos U U) (.move (.t U)) U (RL.v (.pos U U) (.CY (v:=(str s)) hS B8 (i:=1) U (.t U) Tryz.isAgg9 U) U (RL.v (.pos U U) (.CY (v:=(i64 p)) hS B8 (i:=0) U (.t U) Tryz.isAgg3 U) U (RL.v (.pos U U) (.DS (.g U (λ h=>h)) (.g U (λ h=>h)) Tryz.underlying9 (λ hW=>by simp only[zb]at hW;omega)) U ?_)))))))))
 refine RL.F1 (.pos U U) Tryz.call119 (.cons (.g U (λ h=>h)) (.cons (.g U (λ h=>h)) .nil)) (λ hW=>by simp only[zb]at hW;exact(R6 signs (A2 s p) _)) U ?_
 refine RL.v (.pos U U) (.geq (.g U (λ h=>h)) .c) U (RL.u (.and (.t U) (.g U (λ h=>h))) U ?_)
 refine RL.nil (CW.at [Y 1 (.pointer (some ⟨bp,0,none⟩)),Y 16 (.bool ((decide (p<(len s)))&&(decide (0<=(Lib.indexByte signs (A2 s p).toNat.toUInt8)))))] U ?_)
 refine CW.cond rfl ?_ ?_<;>intro hb1<;>try simp only[zb]at hb1
 ·refine CW.sr (RL.u (.CY (v:=(i64 p)) hS B8 (i:=0) U (.t U) Tryz.isAgg3 U) U (RL.u (.add (.t U) .c (λ _=>by omega)) U ?_))
  refine RL.st hS (i:=0) U (.t U) (.t U) Tryz.sizeOf3 U U U U U (λ w1 hS2=>(RL.nil (CW.id ?_)))
  refine CW.sr (RL.u (.assign .c) U (RL.nil (CW.id (CW.ret (hE.r1 U U ?_)))))
  have hq:BO s signs p=true:=by unfold BO;simp only[zb];exact hb1
  exact⟨_,rfl,by rw[hq],by rw[P4 hq];exact hS2⟩
 ·refine CW.skip (CW.id (CW.sr (RL.u (.assign .c) U (RL.nil (CW.id ?_)))))
  refine CW.ret (hE.r1 U U ?_)
  have hq:BO s signs p=false:=by unfold BO;simp only[zb];exact hb1
  exact⟨_,rfl,by rw[hq],by rw[LP hq];exact hS⟩
end Go.Proofs.YtmjpjbmeamnfpaaGreatDoor
namespace Go.Proofs.YtmjpjbmeamnfpaaGreatDoor
open Go.Eng Go.RowKit
abbrev tB:=163
set_option maxHeartbeats 1000000 in
set_option maxRecDepth 100000 in
theorem rE(b:Nat)(w:World)(h0:w.cell? ⟨b,0,none⟩=some (.pointer (some ⟨b,0,none⟩))):
  Calls Tryz.prog 149 #[.pointer (some ⟨b,0,none⟩)] w λ e w'=>e= .returned (.tuple #[])/\w'=w:=by
 obtain⟨j,hj,_⟩:=Option.map_eq_some_iff.1 (show(Tryz.prog.info? 163).map (·.size)=some 2 by kernel_rfl)
 have mixed:Tryz.prog.follows .mixedOrders=true:=by kernel_rfl
 have u82:=λ w=>run_underlying (P:=Tryz.prog) (w:=w) Tryz.underlying161
 go_enter Tryz.func149,Tryz.ntmps149
 go_wp2
 rw[Lib.run_neq_ptr_same w _ Tryz.underlying161 hj]
 go_wp2
 go_end0
 exact⟨rfl,rfl⟩
set_option maxHeartbeats 1000000 in
set_option maxRecDepth 100000 in
theorem rF(b:Nat)(w:World)(h0:w.cell? ⟨b,0,none⟩=some (.pointer none))(hsh:w.shape? b=some (163,2))(hfz:w.frozen? ⟨b,0,none⟩=false):
  Calls Tryz.prog 149 #[.pointer (some ⟨b,0,none⟩)] w λ e w'=>e= .returned (.tuple #[])/\w'=w.setCell ⟨b,0,none⟩ (.pointer (some ⟨b,0,none⟩)):=by
 obtain⟨j,hj,hjs⟩:=Option.map_eq_some_iff.1 (show(Tryz.prog.info? 163).map (·.size)=some 2 by kernel_rfl)
 have mixed:Tryz.prog.follows .mixedOrders=true:=by kernel_rfl
 have u82:=λ w=>run_underlying (P:=Tryz.prog) (w:=w) Tryz.underlying161
 go_enter Tryz.func149,Tryz.ntmps149
 go_wp2
 rw[Lib.run_to_unsafe w ⟨b,0,none⟩ Tryz.underlying161 Tryz.underlying237 hj (by rw[hjs];decide) hsh (Nat.zero_lt_succ 1)]
 simp only[Result.andThen]
 rw[Oper.upon_value]
 go_wp2
 rw[run_callFunc_extern Tryz.func197 (by kernel_rfl) (by kernel_rfl) (by kernel_rfl) (e:=Extern.AbiNoEscape.same) (by kernel_rfl)]
 rw[Lib.run_noEscape]
 simp only[Result.andThen]
 rw[Oper.upon_value]
 go_wp2
 rw[Lib.run_from_unsafe w ⟨b,0,none⟩ Tryz.underlying237 Tryz.underlying161 hj hsh (by kernel_rfl)]
 simp only[Result.andThen]
 rw[Oper.upon_value]
 go_wp2
 go_end0
 exact⟨rfl,rfl⟩
end Go.Proofs.YtmjpjbmeamnfpaaGreatDoor
set_option maxRecDepth 100000
namespace Go.Proofs.YtmjpjbmeamnfpaaGreatDoor
open Go.Eng
abbrev BJ(r:Int):List Int:=Lib.encodeRuneZ r
theorem rG{w wv:World}{M0 M:Mem}{Rs:List HO}(l:List Int)(r:Int)(v:Value)(hS:St w M0 wv M (.own 5 1 v l.length (l.flatMap AP)::Rs))(hl:len l<=70368744177664)(hr:128<=r/\r<=1114111):
  Calls Tryz.prog 198 [v,(.int .i32 r)].toArray wv λ e w'=> ∃v,e= .returned v/\ ∃M',St w M0 w' M' (.own 5 1 v (l++BJ r).length ((l++BJ r).flatMap AP)::Rs)/\M.le M':=by
 refine CW.BV Tryz.func198 U Tryz.ntmps198 (Nat.le_of_ble_eq_true U) λ Q hE=>?_
 have:=AA l
 refine CW.weaken [0,1] (L':=[Y 0 v,Y 1 (.int .i32 r)]) ?_ U
 refine CW.sr ?_
 have hS1:=hS.I1 5 1
 refine RL.u (.assign .c) U (RL.nil (CW.id ?_))
 refine CW.sr (RL.m U U (RL.u (.BM (r:=r) (.t U) Tryz.underlying21 Tryz.underlying93 (λ _=>by exact Eng.wrap_u32 (by omega))) U (RL.a U U (RL.nil (CW.id (CW.block ?_))))))
 refine CW.sr (RL.m U U (RL.u (.leq (.t U) .c) U (RL.a U U (RL.nil (CW.id ?_)))))
 refine CW.cond rfl ?_ ?_<;>intro hb1<;>try simp only[zb]at hb1
 ·refine CW.sr (RL.m U U (RL.m U U (RL.u (.bin (v:=.int .i32 (r/64)) (.t U) .c (λ _ w _=>by simp[go_sem,binOp])) U (RL.u (.BM (r:=(r/64)%256) (.t U) Tryz.underlying21 Tryz.underlying5 (λ _=>IntKind.wrap_u8 _)) U (RL.u (.bin (v:=.int .u8 (192+((r/64)%256))) .c (.t U) (λ hW w _=>by simp[go_sem,binOp];first|exact u8_or192 _ (by omega) (by omega)|(have hB:=u8_or192 _ (by omega) (by omega);omega))) U (RL.m U U (RL.u (.BM (r:=r%256) (.t U) Tryz.underlying21 Tryz.underlying5 (λ _=>IntKind.wrap_u8 _)) U (RL.u (.bin (v:=.int .u8 ((r%256)%64)) (.t U) .c (λ hW w _=>by simp[go_sem,binOp];first|exact u8_and63 (r%256) (by omega) (by omega)|(have hB:=u8_and63 (r%256) (by omega) (by omega);omega))) U (RL.u (.bin (v:=.int .u8 (128+((r%256)%64))) .c (.t U) (λ hW w _=>by simp[go_sem,binOp];first|exact u8_or128 _ (by omega) (by omega)|(have hB:=u8_or128 _ (by omega) (by omega);omega))) U ?_)))))))))
  refine RL.buildSlice (n:=2) (sz:=1) (e:=5) (vs:=[(0,(.int .u8 (192+((r/64)%256)))),(1,(.int .u8 (128+((r%256)%64))))]) (cs:=[(.int .u8 (192+((r/64)%256))),(.int .u8 (128+((r%256)%64)))]) hS1 (.cons (.t U) (.cons (.t U) .nil)) U U (λ w=>by kernel_rfl) U (λ v2 w3 M4 hS5 hle6=>?_)
  refine RL.JJ (f:=AP) (l:=l) (m:=([192+((r/64)%256),128+((r%256)%64)]:List Int)) hS5 (k:=2) U (.t U) (.t U) (hS5.sl (i:=0) U) Tryz.underlying110 Tryz.type5 U U U JK (by':=1) U U (by simp only[AJ,AL,len_nil];omega) U (Hs':=λ v'=>(.own 5 1 v2 (([192+((r/64)%256),128+((r%256)%64)]:List Int)).length ((([192+((r/64)%256),128+((r%256)%64)]:List Int)).flatMap AP):: .own 5 1 (.slice none 0 0) (([]:List Int)).length ((([]:List Int)).flatMap AP):: .own 5 1 v' (l++([192+((r/64)%256),128+((r%256)%64)]:List Int)).length ((l++([192+((r/64)%256),128+((r%256)%64)]:List Int)).flatMap AP)::Rs)) (λ _=>rfl) (λ v7 w8 M9 hS10 hle11=>?_)
  refine RL.a U U (RL.nil (CW.id ?_))
  refine CW.ret (hE.r1 U U ?_)
  replace hS10:=(hS10.erase 1 U).erase 0 U
  refine⟨_,rfl,M9,?_,(hle6.trans hle11)⟩
  have he:BJ r=([192+((r/64)%256),128+((r%256)%64)]:List Int):=by
   refine(show BJ r=_ from Lib.encodeRuneZ_two (by omega) (by omega)).trans ?_
   first|rfl|(simp only[List.cons.injEq,and_true];omega)
  rw[he];exact hS10
 ·refine CW.seq (CW.sr (RL.m U U (RL.u (.lss (.t U) .c) U (RL.a U U (RL.nil (CW.id ?_))))))
  refine CW.cond rfl ?_ ?_<;>intro hb2<;>try simp only[zb]at hb2
  ·refine CW.skip (CW.id ?_)
   refine CW.cond rfl ?_ ?_<;>intro hb3<;>try simp only[zb]at hb3
   ·refine CW.sr (RL.m U U (RL.m U U (RL.u (.bin (v:=.int .i32 (r/4096)) (.t U) .c (λ _ w _=>by simp[go_sem,binOp])) U (RL.u (.BM (r:=(r/4096)%256) (.t U) Tryz.underlying21 Tryz.underlying5 (λ _=>IntKind.wrap_u8 _)) U (RL.u (.bin (v:=.int .u8 (224+((r/4096)%256))) .c (.t U) (λ hW w _=>by simp[go_sem,binOp];first|exact u8_or224 _ (by omega) (by omega)|(have hB:=u8_or224 _ (by omega) (by omega);omega))) U (RL.m U U (RL.u (.bin (v:=.int .i32 (r/64)) (.t U) .c (λ _ w _=>by simp[go_sem,binOp])) U (RL.u (.BM (r:=(r/64)%256) (.t U) Tryz.underlying21 Tryz.underlying5 (λ _=>IntKind.wrap_u8 _)) U (RL.u (.bin (v:=.int .u8 (((r/64)%256)%64)) (.t U) .c (λ hW w _=>by simp[go_sem,binOp];first|exact u8_and63 ((r/64)%256) (by omega) (by omega)|(have hB:=u8_and63 ((r/64)%256) (by omega) (by omega);omega))) U (RL.u (.bin (v:=.int .u8 (128+(((r/64)%256)%64))) .c (.t U) (λ hW w _=>by simp[go_sem,binOp];first|exact u8_or128 _ (by omega) (by omega)|(have hB:=u8_or128 _ (by omega) (by omega);omega))) U (RL.m U U (RL.u (.BM (r:=r%256) (.t U) Tryz.underlying21 Tryz.underlying5 (λ _=>IntKind.wrap_u8 _)) U (RL.u (.bin (v:=.int .u8 ((r%256)%64)) (.t U) .c (λ hW w _=>by simp[go_sem,binOp];first|exact u8_and63 (r%256) (by omega) (by omega)|(have hB:=u8_and63 (r%256) (by omega) (by omega);omega))) U (RL.u (.bin (v:=.int .u8 (128+((r%256)%64))) .c (.t U) (λ hW w _=>by simp[go_sem,binOp];first|exact u8_or128 _ (by omega) (by omega)|(have hB:=u8_or128 _ (by omega) (by omega);omega))) U ?_))))))))))))))
    refine RL.buildSlice (n:=3) (sz:=1) (e:=5) (vs:=[(0,(.int .u8 (224+((r/4096)%256)))),(1,(.int .u8 (128+(((r/64)%256)%64)))),(2,(.int .u8 (128+((r%256)%64))))]) (cs:=[(.int .u8 (224+((r/4096)%256))),(.int .u8 (128+(((r/64)%256)%64))),(.int .u8 (128+((r%256)%64)))]) hS1 (.cons (.t U) (.cons (.t U) (.cons (.t U) .nil))) U U (λ w=>by kernel_rfl) U (λ v12 w13 M14 hS15 hle16=>?_)
    refine RL.JJ (f:=AP) (l:=l) (m:=([224+((r/4096)%256),128+(((r/64)%256)%64),128+((r%256)%64)]:List Int)) hS15 (k:=2) U (.t U) (.t U) (hS15.sl (i:=0) U) Tryz.underlying110 Tryz.type5 U U U JK (by':=1) U U (by simp only[AJ,AL,len_nil];omega) U (Hs':=λ v'=>(.own 5 1 v12 (([224+((r/4096)%256),128+(((r/64)%256)%64),128+((r%256)%64)]:List Int)).length ((([224+((r/4096)%256),128+(((r/64)%256)%64),128+((r%256)%64)]:List Int)).flatMap AP):: .own 5 1 (.slice none 0 0) (([]:List Int)).length ((([]:List Int)).flatMap AP):: .own 5 1 v' (l++([224+((r/4096)%256),128+(((r/64)%256)%64),128+((r%256)%64)]:List Int)).length ((l++([224+((r/4096)%256),128+(((r/64)%256)%64),128+((r%256)%64)]:List Int)).flatMap AP)::Rs)) (λ _=>rfl) (λ v17 w18 M19 hS20 hle21=>?_)
    refine RL.a U U (RL.nil (CW.id ?_))
    refine CW.ret (hE.r1 U U ?_)
    replace hS20:=(hS20.erase 1 U).erase 0 U
    refine⟨_,rfl,M19,?_,(hle16.trans hle21)⟩
    have he:BJ r=([224+((r/4096)%256),128+(((r/64)%256)%64),128+((r%256)%64)]:List Int):=by
     refine(show BJ r=_ from Lib.encodeRuneZ_three (by omega)).trans ?_
     first|rfl|(simp only[List.cons.injEq,and_true];omega)
    rw[he];exact hS20
   ·refine CW.sr (RL.m U U (RL.u (.gtr (.t U) .c) U (RL.m U U (RL.v (.pos U U) (.move (.t U)) U (RL.v (.pos U U) (.leq (.g U (λ h=>h)) .c) U (RL.u (.and (.t U) (.g U (λ h=>h))) U (RL.a U U (RL.nil (CW.id ?_)))))))))
    refine CW.cond rfl ?_ ?_<;>intro hb4<;>try simp only[zb]at hb4
    ·refine CW.sr (RL.m U U (RL.m U U (RL.u (.bin (v:=.int .i32 (r/262144)) (.t U) .c (λ _ w _=>by simp[go_sem,binOp])) U (RL.u (.BM (r:=(r/262144)%256) (.t U) Tryz.underlying21 Tryz.underlying5 (λ _=>IntKind.wrap_u8 _)) U (RL.u (.bin (v:=.int .u8 (240+((r/262144)%256))) .c (.t U) (λ hW w _=>by simp[go_sem,binOp];first|exact u8_or240 _ (by omega) (by omega)|(have hB:=u8_or240 _ (by omega) (by omega);omega))) U (RL.m U U (RL.u (.bin (v:=.int .i32 (r/4096)) (.t U) .c (λ _ w _=>by simp[go_sem,binOp])) U (RL.u (.BM (r:=(r/4096)%256) (.t U) Tryz.underlying21 Tryz.underlying5 (λ _=>IntKind.wrap_u8 _)) U (RL.u (.bin (v:=.int .u8 (((r/4096)%256)%64)) (.t U) .c (λ hW w _=>by simp[go_sem,binOp];first|exact u8_and63 ((r/4096)%256) (by omega) (by omega)|(have hB:=u8_and63 ((r/4096)%256) (by omega) (by omega);omega))) U (RL.u (.bin (v:=.int .u8 (128+(((r/4096)%256)%64))) .c (.t U) (λ hW w _=>by simp[go_sem,binOp];first|exact u8_or128 _ (by omega) (by omega)|(have hB:=u8_or128 _ (by omega) (by omega);omega))) U (RL.m U U (RL.u (.bin (v:=.int .i32 (r/64)) (.t U) .c (λ _ w _=>by simp[go_sem,binOp])) U (RL.u (.BM (r:=(r/64)%256) (.t U) Tryz.underlying21 Tryz.underlying5 (λ _=>IntKind.wrap_u8 _)) U (RL.u (.bin (v:=.int .u8 (((r/64)%256)%64)) (.t U) .c (λ hW w _=>by simp[go_sem,binOp];first|exact u8_and63 ((r/64)%256) (by omega) (by omega)|(have hB:=u8_and63 ((r/64)%256) (by omega) (by omega);omega))) U (RL.u (.bin (v:=.int .u8 (128+(((r/64)%256)%64))) .c (.t U) (λ hW w _=>by simp[go_sem,binOp];first|exact u8_or128 _ (by omega) (by omega)|(have hB:=u8_or128 _ (by omega) (by omega);omega))) U (RL.m U U (RL.u (.BM (r:=r%256) (.t U) Tryz.underlying21 Tryz.underlying5 (λ _=>IntKind.wrap_u8 _)) U (RL.u (.bin (v:=.int .u8 ((r%256)%64)) (.t U) .c (λ hW w _=>by simp[go_sem,binOp];first|exact u8_and63 (r%256) (by omega) (by omega)|(have hB:=u8_and63 (r%256) (by omega) (by omega);omega))) U ?_))))))))))))))))))
     refine RL.u (.bin (v:=.int .u8 (128+((r%256)%64))) .c (.t U) (λ hW w _=>by simp[go_sem,binOp];first|exact u8_or128 _ (by omega) (by omega)|(have hB:=u8_or128 _ (by omega) (by omega);omega))) U ?_
     refine RL.buildSlice (n:=4) (sz:=1) (e:=5) (vs:=[(0,(.int .u8 (240+((r/262144)%256)))),(1,(.int .u8 (128+(((r/4096)%256)%64)))),(2,(.int .u8 (128+(((r/64)%256)%64)))),(3,(.int .u8 (128+((r%256)%64))))]) (cs:=[(.int .u8 (240+((r/262144)%256))),(.int .u8 (128+(((r/4096)%256)%64))),(.int .u8 (128+(((r/64)%256)%64))),(.int .u8 (128+((r%256)%64)))]) hS1 (.cons (.t U) (.cons (.t U) (.cons (.t U) (.cons (.t U) .nil)))) U U (λ w=>by kernel_rfl) U (λ v22 w23 M24 hS25 hle26=>?_)
     refine RL.JJ (f:=AP) (l:=l) (m:=([240+((r/262144)%256),128+(((r/4096)%256)%64),128+(((r/64)%256)%64),128+((r%256)%64)]:List Int)) hS25 (k:=2) U (.t U) (.t U) (hS25.sl (i:=0) U) Tryz.underlying110 Tryz.type5 U U U JK (by':=1) U U (by simp only[AJ,AL,len_nil];omega) U (Hs':=λ v'=>(.own 5 1 v22 (([240+((r/262144)%256),128+(((r/4096)%256)%64),128+(((r/64)%256)%64),128+((r%256)%64)]:List Int)).length ((([240+((r/262144)%256),128+(((r/4096)%256)%64),128+(((r/64)%256)%64),128+((r%256)%64)]:List Int)).flatMap AP):: .own 5 1 (.slice none 0 0) (([]:List Int)).length ((([]:List Int)).flatMap AP):: .own 5 1 v' (l++([240+((r/262144)%256),128+(((r/4096)%256)%64),128+(((r/64)%256)%64),128+((r%256)%64)]:List Int)).length ((l++([240+((r/262144)%256),128+(((r/4096)%256)%64),128+(((r/64)%256)%64),128+((r%256)%64)]:List Int)).flatMap AP)::Rs)) (λ _=>rfl) (λ v27 w28 M29 hS30 hle31=>?_)
     refine RL.a U U (RL.nil (CW.id ?_))
     refine CW.ret (hE.r1 U U ?_)
     replace hS30:=(hS30.erase 1 U).erase 0 U
     exfalso;omega
    ·refine CW.sr (RL.m U U ?_)
     refine RL.buildSlice (n:=3) (sz:=1) (e:=5) (vs:=[(0,(.int .u8 239)),(1,(.int .u8 191)),(2,(.int .u8 189))]) (cs:=[(.int .u8 239),(.int .u8 191),(.int .u8 189)]) hS1 (.cons .c (.cons .c (.cons .c .nil))) U U (λ w=>by kernel_rfl) U (λ v32 w33 M34 hS35 hle36=>?_)
     refine RL.JJ (f:=AP) (l:=l) (m:=([239,191,189]:List Int)) hS35 (k:=2) U (.t U) (.t U) (hS35.sl (i:=0) U) Tryz.underlying110 Tryz.type5 U U U JK (by':=1) U U (by simp only[AJ,AL,len_nil];omega) U (Hs':=λ v'=>(.own 5 1 v32 (([239,191,189]:List Int)).length ((([239,191,189]:List Int)).flatMap AP):: .own 5 1 (.slice none 0 0) (([]:List Int)).length ((([]:List Int)).flatMap AP):: .own 5 1 v' (l++([239,191,189]:List Int)).length ((l++([239,191,189]:List Int)).flatMap AP)::Rs)) (λ _=>rfl) (λ v37 w38 M39 hS40 hle41=>?_)
     refine RL.a U U (RL.nil (CW.id ?_))
     refine CW.ret (hE.r1 U U ?_)
     replace hS40:=(hS40.erase 1 U).erase 0 U
     exfalso;omega
  ·refine CW.region (RL.m U U (RL.u (.lss .c (.t U)) U (RL.m U U (RL.v (.pos U U) (.move (.t U)) U (RL.v (.pos U U) (.leq (.g U (λ h=>h)) .c) U (RL.u (.and (.t U) (.g U (λ h=>h))) U (RL.a U U (RL.nil (CW.id ?_)))))))))
   refine CW.cond rfl ?_ ?_<;>intro hb5<;>try simp only[zb]at hb5
   ·refine CW.sr (RL.m U U (RL.m U U (RL.u (.bin (v:=.int .i32 (r/4096)) (.t U) .c (λ _ w _=>by simp[go_sem,binOp])) U (RL.u (.BM (r:=(r/4096)%256) (.t U) Tryz.underlying21 Tryz.underlying5 (λ _=>IntKind.wrap_u8 _)) U (RL.u (.bin (v:=.int .u8 (224+((r/4096)%256))) .c (.t U) (λ hW w _=>by simp[go_sem,binOp];first|exact u8_or224 _ (by omega) (by omega)|(have hB:=u8_or224 _ (by omega) (by omega);omega))) U (RL.m U U (RL.u (.bin (v:=.int .i32 (r/64)) (.t U) .c (λ _ w _=>by simp[go_sem,binOp])) U (RL.u (.BM (r:=(r/64)%256) (.t U) Tryz.underlying21 Tryz.underlying5 (λ _=>IntKind.wrap_u8 _)) U (RL.u (.bin (v:=.int .u8 (((r/64)%256)%64)) (.t U) .c (λ hW w _=>by simp[go_sem,binOp];first|exact u8_and63 ((r/64)%256) (by omega) (by omega)|(have hB:=u8_and63 ((r/64)%256) (by omega) (by omega);omega))) U (RL.u (.bin (v:=.int .u8 (128+(((r/64)%256)%64))) .c (.t U) (λ hW w _=>by simp[go_sem,binOp];first|exact u8_or128 _ (by omega) (by omega)|(have hB:=u8_or128 _ (by omega) (by omega);omega))) U (RL.m U U (RL.u (.BM (r:=r%256) (.t U) Tryz.underlying21 Tryz.underlying5 (λ _=>IntKind.wrap_u8 _)) U (RL.u (.bin (v:=.int .u8 ((r%256)%64)) (.t U) .c (λ hW w _=>by simp[go_sem,binOp];first|exact u8_and63 (r%256) (by omega) (by omega)|(have hB:=u8_and63 (r%256) (by omega) (by omega);omega))) U (RL.u (.bin (v:=.int .u8 (128+((r%256)%64))) .c (.t U) (λ hW w _=>by simp[go_sem,binOp];first|exact u8_or128 _ (by omega) (by omega)|(have hB:=u8_or128 _ (by omega) (by omega);omega))) U ?_))))))))))))))
    refine RL.buildSlice (n:=3) (sz:=1) (e:=5) (vs:=[(0,(.int .u8 (224+((r/4096)%256)))),(1,(.int .u8 (128+(((r/64)%256)%64)))),(2,(.int .u8 (128+((r%256)%64))))]) (cs:=[(.int .u8 (224+((r/4096)%256))),(.int .u8 (128+(((r/64)%256)%64))),(.int .u8 (128+((r%256)%64)))]) hS1 (.cons (.t U) (.cons (.t U) (.cons (.t U) .nil))) U U (λ w=>by kernel_rfl) U (λ v42 w43 M44 hS45 hle46=>?_)
    refine RL.JJ (f:=AP) (l:=l) (m:=([224+((r/4096)%256),128+(((r/64)%256)%64),128+((r%256)%64)]:List Int)) hS45 (k:=2) U (.t U) (.t U) (hS45.sl (i:=0) U) Tryz.underlying110 Tryz.type5 U U U JK (by':=1) U U (by simp only[AJ,AL,len_nil];omega) U (Hs':=λ v'=>(.own 5 1 v42 (([224+((r/4096)%256),128+(((r/64)%256)%64),128+((r%256)%64)]:List Int)).length ((([224+((r/4096)%256),128+(((r/64)%256)%64),128+((r%256)%64)]:List Int)).flatMap AP):: .own 5 1 (.slice none 0 0) (([]:List Int)).length ((([]:List Int)).flatMap AP):: .own 5 1 v' (l++([224+((r/4096)%256),128+(((r/64)%256)%64),128+((r%256)%64)]:List Int)).length ((l++([224+((r/4096)%256),128+(((r/64)%256)%64),128+((r%256)%64)]:List Int)).flatMap AP)::Rs)) (λ _=>rfl) (λ v47 w48 M49 hS50 hle51=>?_)
    refine RL.a U U (RL.nil (CW.id ?_))
    refine CW.ret (hE.r1 U U ?_)
    replace hS50:=(hS50.erase 1 U).erase 0 U
    refine⟨_,rfl,M49,?_,(hle46.trans hle51)⟩
    have he:BJ r=([224+((r/4096)%256),128+(((r/64)%256)%64),128+((r%256)%64)]:List Int):=by
     refine(show BJ r=_ from Lib.encodeRuneZ_three (by omega)).trans ?_
     first|rfl|(simp only[List.cons.injEq,and_true];omega)
    rw[he];exact hS50
   ·refine CW.sr (RL.m U U (RL.u (.gtr (.t U) .c) U (RL.m U U (RL.v (.pos U U) (.move (.t U)) U (RL.v (.pos U U) (.leq (.g U (λ h=>h)) .c) U (RL.u (.and (.t U) (.g U (λ h=>h))) U (RL.a U U (RL.nil (CW.id ?_)))))))))
    refine CW.cond rfl ?_ ?_<;>intro hb6<;>try simp only[zb]at hb6
    ·refine CW.sr (RL.m U U (RL.m U U (RL.u (.bin (v:=.int .i32 (r/262144)) (.t U) .c (λ _ w _=>by simp[go_sem,binOp])) U (RL.u (.BM (r:=(r/262144)%256) (.t U) Tryz.underlying21 Tryz.underlying5 (λ _=>IntKind.wrap_u8 _)) U (RL.u (.bin (v:=.int .u8 (240+((r/262144)%256))) .c (.t U) (λ hW w _=>by simp[go_sem,binOp];first|exact u8_or240 _ (by omega) (by omega)|(have hB:=u8_or240 _ (by omega) (by omega);omega))) U (RL.m U U (RL.u (.bin (v:=.int .i32 (r/4096)) (.t U) .c (λ _ w _=>by simp[go_sem,binOp])) U (RL.u (.BM (r:=(r/4096)%256) (.t U) Tryz.underlying21 Tryz.underlying5 (λ _=>IntKind.wrap_u8 _)) U (RL.u (.bin (v:=.int .u8 (((r/4096)%256)%64)) (.t U) .c (λ hW w _=>by simp[go_sem,binOp];first|exact u8_and63 ((r/4096)%256) (by omega) (by omega)|(have hB:=u8_and63 ((r/4096)%256) (by omega) (by omega);omega))) U (RL.u (.bin (v:=.int .u8 (128+(((r/4096)%256)%64))) .c (.t U) (λ hW w _=>by simp[go_sem,binOp];first|exact u8_or128 _ (by omega) (by omega)|(have hB:=u8_or128 _ (by omega) (by omega);omega))) U (RL.m U U (RL.u (.bin (v:=.int .i32 (r/64)) (.t U) .c (λ _ w _=>by simp[go_sem,binOp])) U (RL.u (.BM (r:=(r/64)%256) (.t U) Tryz.underlying21 Tryz.underlying5 (λ _=>IntKind.wrap_u8 _)) U (RL.u (.bin (v:=.int .u8 (((r/64)%256)%64)) (.t U) .c (λ hW w _=>by simp[go_sem,binOp];first|exact u8_and63 ((r/64)%256) (by omega) (by omega)|(have hB:=u8_and63 ((r/64)%256) (by omega) (by omega);omega))) U (RL.u (.bin (v:=.int .u8 (128+(((r/64)%256)%64))) .c (.t U) (λ hW w _=>by simp[go_sem,binOp];first|exact u8_or128 _ (by omega) (by omega)|(have hB:=u8_or128 _ (by omega) (by omega);omega))) U (RL.m U U (RL.u (.BM (r:=r%256) (.t U) Tryz.underlying21 Tryz.underlying5 (λ _=>IntKind.wrap_u8 _)) U (RL.u (.bin (v:=.int .u8 ((r%256)%64)) (.t U) .c (λ hW w _=>by simp[go_sem,binOp];first|exact u8_and63 (r%256) (by omega) (by omega)|(have hB:=u8_and63 (r%256) (by omega) (by omega);omega))) U ?_))))))))))))))))))
     refine RL.u (.bin (v:=.int .u8 (128+((r%256)%64))) .c (.t U) (λ hW w _=>by simp[go_sem,binOp];first|exact u8_or128 _ (by omega) (by omega)|(have hB:=u8_or128 _ (by omega) (by omega);omega))) U ?_
     refine RL.buildSlice (n:=4) (sz:=1) (e:=5) (vs:=[(0,(.int .u8 (240+((r/262144)%256)))),(1,(.int .u8 (128+(((r/4096)%256)%64)))),(2,(.int .u8 (128+(((r/64)%256)%64)))),(3,(.int .u8 (128+((r%256)%64))))]) (cs:=[(.int .u8 (240+((r/262144)%256))),(.int .u8 (128+(((r/4096)%256)%64))),(.int .u8 (128+(((r/64)%256)%64))),(.int .u8 (128+((r%256)%64)))]) hS1 (.cons (.t U) (.cons (.t U) (.cons (.t U) (.cons (.t U) .nil)))) U U (λ w=>by kernel_rfl) U (λ v52 w53 M54 hS55 hle56=>?_)
     refine RL.JJ (f:=AP) (l:=l) (m:=([240+((r/262144)%256),128+(((r/4096)%256)%64),128+(((r/64)%256)%64),128+((r%256)%64)]:List Int)) hS55 (k:=2) U (.t U) (.t U) (hS55.sl (i:=0) U) Tryz.underlying110 Tryz.type5 U U U JK (by':=1) U U (by simp only[AJ,AL,len_nil];omega) U (Hs':=λ v'=>(.own 5 1 v52 (([240+((r/262144)%256),128+(((r/4096)%256)%64),128+(((r/64)%256)%64),128+((r%256)%64)]:List Int)).length ((([240+((r/262144)%256),128+(((r/4096)%256)%64),128+(((r/64)%256)%64),128+((r%256)%64)]:List Int)).flatMap AP):: .own 5 1 (.slice none 0 0) (([]:List Int)).length ((([]:List Int)).flatMap AP):: .own 5 1 v' (l++([240+((r/262144)%256),128+(((r/4096)%256)%64),128+(((r/64)%256)%64),128+((r%256)%64)]:List Int)).length ((l++([240+((r/262144)%256),128+(((r/4096)%256)%64),128+(((r/64)%256)%64),128+((r%256)%64)]:List Int)).flatMap AP)::Rs)) (λ _=>rfl) (λ v57 w58 M59 hS60 hle61=>?_)
     refine RL.a U U ?_
     refine RL.nil (CW.at [Y 4 v57] U (CW.ret (hE.r1 U U ?_)))
     replace hS60:=(hS60.erase 1 U).erase 0 U
     refine⟨_,rfl,M59,?_,(hle56.trans hle61)⟩
     have he:BJ r=([240+((r/262144)%256),128+(((r/4096)%256)%64),128+(((r/64)%256)%64),128+((r%256)%64)]:List Int):=by
      refine(show BJ r=_ from Lib.encodeRuneZ_four (by omega) (by omega)).trans ?_
      first|rfl|(simp only[List.cons.injEq,and_true];omega)
     rw[he];exact hS60
    ·refine CW.sr (RL.m U U ?_)
     refine RL.buildSlice (n:=3) (sz:=1) (e:=5) (vs:=[(0,(.int .u8 239)),(1,(.int .u8 191)),(2,(.int .u8 189))]) (cs:=[(.int .u8 239),(.int .u8 191),(.int .u8 189)]) hS1 (.cons .c (.cons .c (.cons .c .nil))) U U (λ w=>by kernel_rfl) U (λ v62 w63 M64 hS65 hle66=>?_)
     refine RL.JJ (f:=AP) (l:=l) (m:=([239,191,189]:List Int)) hS65 (k:=2) U (.t U) (.t U) (hS65.sl (i:=0) U) Tryz.underlying110 Tryz.type5 U U U JK (by':=1) U U (by simp only[AJ,AL,len_nil];omega) U (Hs':=λ v'=>(.own 5 1 v62 (([239,191,189]:List Int)).length ((([239,191,189]:List Int)).flatMap AP):: .own 5 1 (.slice none 0 0) (([]:List Int)).length ((([]:List Int)).flatMap AP):: .own 5 1 v' (l++([239,191,189]:List Int)).length ((l++([239,191,189]:List Int)).flatMap AP)::Rs)) (λ _=>rfl) (λ v67 w68 M69 hS70 hle71=>?_)
     refine RL.a U U (RL.nil (CW.id ?_))
     refine CW.ret (hE.r1 U U ?_)
     replace hS70:=(hS70.erase 1 U).erase 0 U
     refine⟨_,rfl,M69,?_,(hle66.trans hle71)⟩
     have he:BJ r=([239,191,189]:List Int):=by
      refine(show BJ r=_ from Lib.encodeRuneZ_bad (by omega)).trans ?_
      first|rfl|(simp only[List.cons.injEq,and_true];omega)
     rw[he];exact hS70
theorem rH{w wv:World}{M0 M:Mem}{Rs:List HO}(l:List Int)(r:Int)(v:Value)(hS:St w M0 wv M (.own 5 1 v l.length (l.flatMap AP)::Rs))(hl:len l<=70368744177664)(hr:0<=r/\r<=1114111):
  Calls Tryz.prog 150 [v,(.int .i32 r)].toArray wv λ e w'=> ∃v,e= .returned v/\ ∃M',St w M0 w' M' (.own 5 1 v (l++BJ r).length ((l++BJ r).flatMap AP)::Rs)/\M.le M':=by
 refine CW.BV Tryz.func150 U Tryz.ntmps150 (Nat.le_of_ble_eq_true U) λ Q hE=>?_
 have:=AA l
 refine CW.weaken [0,1] (L':=[Y 0 v,Y 1 (.int .i32 r)]) ?_ U
 refine CW.sr ?_
 have hS1:=hS.I1 5 1
 refine RL.u (.assign .c) U (RL.nil (CW.id ?_))
 refine CW.seq (CW.sr (RL.m U U (RL.u (.BM (r:=r) (.t U) Tryz.underlying21 Tryz.underlying93 (λ _=>by exact Eng.wrap_u32 (by omega))) U (RL.u (.leq (.t U) .c) U (RL.nil (CW.id ?_))))))
 refine CW.cond rfl ?_ ?_<;>intro hb1<;>try simp only[zb]at hb1
 ·refine CW.sr (RL.m U U (RL.m U U (RL.u (.BM (r:=r) (.t U) Tryz.underlying21 Tryz.underlying5 (λ _=>by exact Eng.wrap_u8 (by omega))) U ?_)))
  refine RL.buildSlice (n:=1) (sz:=1) (e:=5) (vs:=[(0,(.int .u8 r))]) (cs:=[(.int .u8 r)]) hS1 (.cons (.t U) .nil) U U (λ w=>by kernel_rfl) U (λ v2 w3 M4 hS5 hle6=>?_)
  refine RL.OC (f:=AP) (l:=l) (y:=r) hS5 (k:=2) U (.t U) (.t U) (hS5.sl (i:=0) U) Tryz.underlying110 Tryz.type5 U U U JK (by':=1) U U (by omega) U (Hs':=λ v'=>(.own 5 1 v2 (([r]:List Int)).length ((([r]:List Int)).flatMap AP):: .own 5 1 (.slice none 0 0) (([]:List Int)).length ((([]:List Int)).flatMap AP):: .own 5 1 v' (l++[r]).length ((l++[r]).flatMap AP)::Rs)) (λ _=>rfl) (λ v7 w8 M9 hS10 hle11=>?_)
  replace hS10:=hS10.erase 0 U
  refine RL.a U U (RL.nil (CW.id ?_))
  refine CW.ret (hE.r1 U U ?_)
  replace hS10:=hS10.erase 0 U
  refine⟨_,rfl,M9,?_,(hle6.trans hle11)⟩
  have he:BJ r=[r]:=by
   refine(show BJ r=_ from Lib.encodeRuneZ_one (by omega) (by omega)).trans ?_
   first|rfl|(simp only[List.cons.injEq,and_true];omega)
  rw[he];exact hS10
 ·refine CW.skip (CW.id (CW.sr (RL.m U U (RL.m U U ?_))))
  replace hS1:=hS1.front 1 U U
  refine RL.CK Tryz.call198 (.cons (.t U) (.cons (.t U) .nil)) (rG (Rs:=(.own 5 1 (.slice none 0 0) (([]:List Int)).length ((([]:List Int)).flatMap AP)::Rs)) l r v hS1 (by first|assumption|omega) (by omega)) U ?_
  rintro v12 w13 ⟨M14,hS15,hle16⟩
  refine RL.a U U ?_
  refine RL.nil (CW.at [Y 4 v12] U (CW.ret (hE.r1 U U ?_)))
  replace hS15:=hS15.erase 1 U
  exact⟨_,rfl,M14,hS15,hle16⟩
theorem rI{w:World}{b:Nat}{a v x:Value}{t:TypeId}(h:w.heap[b]? =some (.cells #[a,v] t (0,0))):w.setCell ⟨b,0,none⟩ x=w.setRow b #[x,v]:=by
 unfold World.setCell World.setRow
 congr 1
 apply Array.ext_getElem?
 intro i
 by_cases hi:b=i
 ·subst hi;simp[Array.getElem?_modify,h]
 ·simp[Array.getElem?_modify,hi]
def BK(b:Nat):Value:=.pointer (some ⟨b,0,none⟩)
theorem WZ{w wv:World}{M0 M:Mem}{Rs:List HO}(b:Nat)(a v:Value)(hS:St w M0 wv M (.box b [a,v] tB::Rs))(ha:a= .pointer none\/a=BK b):
  Calls Tryz.prog 149 [.pointer (some ⟨b,0,none⟩)].toArray wv λ e w'=> ∃u,e= .returned u/\St w M0 w' M (.box b [BK b,v] tB::Rs):=by
 have hb:=(hS.obj (i:=0) U).2.1
 rcases ha with rfl|rfl
 ·refine(rF b wv (by simp[World.cell?,hb]) (by simp[World.shape?,hb]) (by simp[World.frozen?,hb])).mono λ e w' ⟨he,hw⟩=>⟨_,he,?_⟩
  rw[hw,rI hb]
  exact hS.OB (i:=0) U [BK b,v]
 ·exact(rE b wv (by simp[World.cell?,hb,BK])).mono λ e w' ⟨he,hw⟩=>⟨_,he,hw▸hS⟩
theorem SR{w wv:World}{M0 M:Mem}{Rs:List HO}(b:Nat)(a:Value)(l:List Int)(c:Int)(v:Value)(hS:St w M0 wv M (.box b [a,v] 163:: .own 5 1 v l.length (l.flatMap AP)::Rs))(ha:a= .pointer none\/a=BK b)(hl:len l<=35184372088832)(hc:0<=c/\c<=255):
  Calls Tryz.prog 282 [(.pointer (some ⟨b,0,none⟩)),(.int .u8 c)].toArray wv λ e w'=> ∃u,e= .returned u/\ ∃v' M',u= .nilIface/\St w M0 w' M' (.box b [BK b,v'] 163:: .own 5 1 v' (l++[c]).length ((l++[c]).flatMap AP)::Rs)/\M.le M':=by
 refine CW.BV Tryz.func282 U Tryz.ntmps282 (Nat.le_of_ble_eq_true U) λ Q hE=>?_
 have:=AA l
 refine CW.weaken [0,1] (L':=[Y 0 (.pointer (some ⟨b,0,none⟩)),Y 1 (.int .u8 c)]) ?_ U
 refine CW.sr (RL.u (.assign .c) U (RL.nil (CW.id (CW.sr ?_))))
 refine RL.m U U ?_
 replace hS:=hS.front 0 U U
 refine RL.CK Tryz.call149 (.cons (.t U) .nil) (WZ (Rs:=(.own 5 1 v l.length (l.flatMap AP)::Rs)) b a v hS (by first|assumption|exact Or.inr U|exact Or.inl U)) U ?_
 rintro v1 w2 hS4
 refine RL.nil (CW.at [Y 0 (.pointer (some ⟨b,0,none⟩)),Y 1 (.int .u8 c)] U (CW.sr (RL.m U U (RL.m U U (RL.u (.GC (.t U)) U (RL.u (.FF (q:=⟨b,1,none⟩) (.t U) (λ w=>by kernel_rfl)) U (RL.u (.CY (v:=v) hS4 B8 (i:=0) U (.t U) Tryz.isAgg110 U) U (RL.m U U ?_))))))))
 refine RL.buildSlice (n:=1) (sz:=1) (e:=5) (vs:=[(0,(.int .u8 c))]) (cs:=[(.int .u8 c)]) hS4 (.cons (.t U) .nil) U U (λ w=>by kernel_rfl) U (λ v6 w7 M8 hS9 hle10=>?_)
 refine RL.OC (f:=AP) (l:=l) (y:=c) hS9 (k:=2) U (.t U) (.t U) (hS9.sl (i:=0) U) Tryz.underlying110 Tryz.type5 U U U JK (by':=1) U U (by omega) U (Hs':=λ v'=>(.own 5 1 v6 (([c]:List Int)).length ((([c]:List Int)).flatMap AP):: .box b [(BK b),v] 163:: .own 5 1 v' (l++[c]).length ((l++[c]).flatMap AP)::Rs)) (λ _=>rfl) (λ v11 w12 M13 hS14 hle15=>?_)
 replace hS14:=hS14.erase 0 U
 refine RL.u (.GC (.t U)) U (RL.u (.FF (q:=⟨b,1,none⟩) (.t U) (λ w=>by kernel_rfl)) U ?_)
 refine RL.U6 (v:=v11) hS14 (hS14.sl (i:=1) U) (i:=0) U (.t U) (.t U) Tryz.sizeOf110 U (cs':=[(BK b),v11]) U (Hs':=(.box b [(BK b),v11] 163:: .own 5 1 v11 (l++[c]).length ((l++[c]).flatMap AP)::Rs)) U (λ w16 hS17=>(RL.nil (CW.id ?_)))
 refine CW.sr (RL.u (.assign .c) U (RL.nil (CW.id (CW.ret (hE.r1 U U ?_)))))
 exact⟨_,rfl,_,M13,rfl,hS17,(hle10.trans hle15)⟩
theorem X1{w wv:World}{M0 M:Mem}{Rs:List HO}(b:Nat)(a:Value)(l:List Int)(s:A1)(v:Value)(hS:St w M0 wv M (.box b [a,v] 163:: .own 5 1 v l.length (l.flatMap AP)::Rs))(ha:a= .pointer none\/a=BK b)(hl:len l<=35184372088832)(hc:len s<=35184372088832):
  Calls Tryz.prog 218 [(.pointer (some ⟨b,0,none⟩)),(str s)].toArray wv λ e w'=> ∃u,e= .returned u/\ ∃v' M',u= .tuple #[i64 (len s),.nilIface]/\St w M0 w' M' (.box b [BK b,v'] 163:: .own 5 1 v' (l++ints s).length ((l++ints s).flatMap AP)::Rs)/\M.le M':=by
 refine CW.BV Tryz.func218 U Tryz.ntmps218 (Nat.le_of_ble_eq_true U) λ Q hE=>?_
 have:=AA l
 refine CW.weaken [0,1] (L':=[Y 0 (.pointer (some ⟨b,0,none⟩)),Y 1 (str s)]) ?_ U
 refine CW.sr (RL.u (.assign .c) U (RL.u (.assign .c) U (RL.nil (CW.id (CW.sr ?_)))))
 refine RL.m U U ?_
 replace hS:=hS.front 0 U U
 refine RL.CK Tryz.call149 (.cons (.t U) .nil) (WZ (Rs:=(.own 5 1 v l.length (l.flatMap AP)::Rs)) b a v hS (by first|assumption|exact Or.inr U|exact Or.inl U)) U ?_
 rintro v1 w2 hS4
 refine RL.nil (CW.at [Y 0 (.pointer (some ⟨b,0,none⟩)),Y 1 (str s)] U (CW.sr (RL.m U U (RL.m U U (RL.u (.GC (.t U)) U (RL.u (.FF (q:=⟨b,1,none⟩) (.t U) (λ w=>by kernel_rfl)) U (RL.u (.CY (v:=v) hS4 B8 (i:=0) U (.t U) Tryz.isAgg110 U) U (RL.m U U ?_))))))))
 refine RL.kV (l:=l) (s:=s) hS4 (k:=1) U (.t U) (.t U) Tryz.underlying110 Tryz.underlying9 Tryz.type5 U U U (by omega) U (Hs':=λ v'=>(.box b [(BK b),v] 163:: .own 5 1 v' (l++ints s).length ((l++ints s).flatMap AP)::Rs)) (λ _=>rfl) (λ v6 w7 M8 hS9 hle10=>?_)
 refine RL.u (.GC (.t U)) U (RL.u (.FF (q:=⟨b,1,none⟩) (.t U) (λ w=>by kernel_rfl)) U ?_)
 refine RL.U6 (v:=v6) hS9 (hS9.sl (i:=1) U) (i:=0) U (.t U) (.t U) Tryz.sizeOf110 U (cs':=[(BK b),v6]) U (Hs':=(.box b [(BK b),v6] 163:: .own 5 1 v6 (l++ints s).length ((l++ints s).flatMap AP)::Rs)) U (λ w11 hS12=>(RL.nil (CW.id ?_)))
 refine CW.sr (RL.m U U (RL.u (.D2 (.t U) Tryz.underlying9) U (RL.a U U (RL.u (.assign .c) U (RL.nil (CW.id (CW.ret (hE.r2 U U U ?_))))))))
 exact⟨_,rfl,_,M8,rfl,hS12,hle10⟩
theorem X3{w wv:World}{M0 M:Mem}{Rs:List HO}(b:Nat)(a:Value)(l:List Int)(r:Int)(v:Value)(hS:St w M0 wv M (.box b [a,v] 163:: .own 5 1 v l.length (l.flatMap AP)::Rs))(ha:a= .pointer none\/a=BK b)(hl:len l<=35184372088832)(hc:0<=r/\r<=1114111):
  Calls Tryz.prog 112 [(.pointer (some ⟨b,0,none⟩)),(.int .i32 r)].toArray wv λ e w'=> ∃u,e= .returned u/\ ∃v' M',u= .tuple #[i64 (len (BJ r)),.nilIface]/\St w M0 w' M' (.box b [BK b,v'] 163:: .own 5 1 v' (l++BJ r).length ((l++BJ r).flatMap AP)::Rs)/\M.le M':=by
 refine CW.BV Tryz.func112 U Tryz.ntmps112 (Nat.le_of_ble_eq_true U) λ Q hE=>?_
 have:=AA l
 have hz:=Lib.encodeRuneZ_length r
 have hz2:1<=len (BJ r)/\len (BJ r)<=4:=by unfold len BJ;omega
 refine CW.weaken [0,1] (L':=[Y 0 (.pointer (some ⟨b,0,none⟩)),Y 1 (.int .i32 r)]) ?_ U
 refine CW.sr (RL.u (.assign .c) U (RL.u (.assign .c) U (RL.nil (CW.id (CW.sr ?_)))))
 refine RL.m U U ?_
 replace hS:=hS.front 0 U U
 refine RL.CK Tryz.call149 (.cons (.t U) .nil) (WZ (Rs:=(.own 5 1 v l.length (l.flatMap AP)::Rs)) b a v hS (by first|assumption|exact Or.inr U|exact Or.inl U)) U ?_
 rintro v1 w2 hS4
 refine RL.nil (CW.at [Y 0 (.pointer (some ⟨b,0,none⟩)),Y 1 (.int .i32 r)] U (CW.sr (RL.m U U (RL.u (.GC (.t U)) U (RL.u (.FF (q:=⟨b,1,none⟩) (.t U) (λ w=>by kernel_rfl)) U (RL.u (.CY (v:=v) hS4 B8 (i:=0) U (.t U) Tryz.isAgg110 U) U (RL.u (.MP (hS4.sl (i:=1) U) (.t U) ⟨_,Tryz.underlying110⟩) U (RL.a U U (RL.nil (CW.id ?_))))))))))
 refine CW.sr (RL.m U U (RL.m U U (RL.u (.GC (.t U)) U (RL.u (.FF (q:=⟨b,1,none⟩) (.t U) (λ w=>by kernel_rfl)) U (RL.u (.CY (v:=v) hS4 B8 (i:=0) U (.t U) Tryz.isAgg110 U) U (RL.m U U ?_))))))
 replace hS4:=hS4.front 1 U U
 refine RL.CK Tryz.call150 (.cons (.t U) (.cons (.t U) .nil)) (rH (Rs:=(.box b [(BK b),v] 163::Rs)) l r v hS4 (by first|assumption|omega) (by omega)) U ?_
 rintro v6 w7 ⟨M8,hS9,hle10⟩
 refine RL.u (.GC (.t U)) U (RL.u (.FF (q:=⟨b,1,none⟩) (.t U) (λ w=>by kernel_rfl)) U ?_)
 refine RL.U6 (v:=v6) hS9 (hS9.sl (i:=0) U) (i:=1) U (.t U) (.t U) Tryz.sizeOf110 U (cs':=[(BK b),v6]) U (Hs':=(.own 5 1 v6 (l++BJ r).length ((l++BJ r).flatMap AP):: .box b [(BK b),v6] 163::Rs)) U (λ w11 hS12=>?_)
 refine RL.nil (CW.at [Y 0 (.pointer (some ⟨b,0,none⟩)),Y 6 (i64 (len l))] U (CW.sr (RL.m U U (RL.u (.GC (.t U)) U (RL.u (.FF (q:=⟨b,1,none⟩) (.t U) (λ w=>by kernel_rfl)) U (RL.u (.CY (v:=v6) hS12 B8 (i:=1) U (.t U) Tryz.isAgg110 U) U (RL.u (.MP (hS12.sl (i:=0) U) (.t U) ⟨_,Tryz.underlying110⟩) U (RL.m U U (RL.u (.sub (.t U) (.t U) (λ _=>by first|omega|(simp only[AJ,AL,len_nil];omega))) U (RL.a U U (RL.u (.assign .c) U (RL.nil (CW.id ?_)))))))))))))
 refine CW.ret (hE.r2 U U U ?_)
 replace hS12:=(hS12.front 0 U U).front 1 U U
 exact⟨_,rfl,_,M8,by rw[AJ,show len l+len (BJ r)-len l=len (BJ r)from by omega],hS12,hle10⟩
end Go.Proofs.YtmjpjbmeamnfpaaGreatDoor
namespace Go.Proofs.YtmjpjbmeamnfpaaGreatDoor
open Go.Eng
def CQ(c:Int):Int:=((c.toNat|||32:Nat):Int)
theorem rJ{c:Int}(h0:0<=c)(h1:c<=255):bits .or .u8 c 32=CQ c:=u8_or c 32 h0 (by omega) (by decide) (by decide)
def dP(c:Int):Bool:=
 decide (CQ c<=255)&&(decide (48<=c/\c<=57)||(if 97<=CQ c/\CQ c<=122 then(if CQ c<=102 then decide (EX c=CQ c-87)else decide (EX c= -1))else decide (EX c= -1)))
theorem rK:(List.range 256).all (λ n=>dP (n:Int))=true:=by decide+kernel
theorem rL{c:Int}(h0:0<=c)(h1:c<=255):(0<=CQ c/\CQ c<=255)/\(97<=CQ c->CQ c<=122-> ¬(48<=c/\c<=57)->(CQ c<=102->EX c=CQ c-87)/\(102<CQ c->EX c= -1))/\
  (¬(97<=CQ c/\CQ c<=122)-> ¬(48<=c/\c<=57)->EX c= -1):=by
 have h:=List.all_eq_true.1 rK c.toNat (List.mem_range.2 (by omega))
 rw[show((c.toNat:Nat):Int)=c from by omega]at h
 have hz:0<=CQ c:=by unfold CQ;omega
 unfold dP at h
 simp only[Bool.and_eq_true,Bool.or_eq_true,decide_eq_true_eq]at h
 generalize CQ c=y at*
 generalize EX c=z at*
 refine⟨⟨hz,h.1⟩,λ h2 h3 h4=>?_,λ h2 h4=>?_⟩
 ·rcases h.2 with h5|h5
  ·exact absurd h5 h4
  ·rw[if_pos ⟨h2,h3⟩]at h5
   constructor
   ·intro h6;rw[if_pos h6]at h5;simpa using h5
   ·intro h6;rw[if_neg (by omega)]at h5;simpa using h5
 ·rcases h.2 with h5|h5
  ·exact absurd h5 h4
  ·rw[if_neg h2]at h5;simpa using h5
theorem rM{c:Int}(h:48<=c/\c<=57):EX c=c-48:=by unfold EX;rw[if_pos h]
theorem ints_at{s:A1}{k:Int}(h0:0<=k)(h1:k<len s):at' (ints s) k=A2 s k:=by
 have h:k.toNat<s.length:=by unfold len at h1;omega
 simp[at',ints,A2,h]
abbrev dQ:A1:=[48,49,50,51,52,53,54,55,56,57,97,98,99,100,101,102,103,104,105,106,107,108,109,110,111,112,113,114,115,116,117,118,119,120,121,122]
theorem rN: ∀n:Nat,n<16->A2 dQ (n:Int)=EB (n:Int):=by decide+kernel
theorem dR{n:Int}(h0:0<=n)(h1:n<16):A2 dQ n=EB n:=by
 have:=rN n.toNat (by omega)
 rwa [show((n.toNat:Nat):Int)=n from by omega]at this
theorem SS(x:Int)(h0:0<=x)(h1:x<18446744073709551616):bits .and .u64 x 15=x%16:=by
 rw[u64_and x 15 h0 h1 (by decide) (by decide)]
 have h:x.toNat&&& 15=x.toNat%16:=Nat.and_two_pow_sub_one_eq_mod x.toNat 4
 show((x.toNat&&& (15:Nat):Nat):Int)=_
 rw[h];omega
theorem rO{l:A1}{k:Int}(hl:len l=4)(h0:0<=k)(h1:k<4)(h:EA (Eng.sub l 0 k)=true):0<=FJ (Eng.sub l 0 k)/\FJ (Eng.sub l 0 k)<=4095:=
 qL h (by rw[H5 (by omega) (by omega) (by omega)];omega)
end Go.Proofs.YtmjpjbmeamnfpaaGreatDoor
