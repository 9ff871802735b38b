/-
  Parts R1 Lib Card, put together and made short by wip/py/merge.py (mini.py).
-/
import Derived.Test.YtmjpjbmeamnfpaaGreatDoorZc4
import Derived.Laws.BitsLemmas
import Derived.Test.YtmjpjbmeamnfpaaGreatDoorZc3
import Derived.Test.YtmjpjbmeamnfpaaGreatDoorProg
import Derived.Test.YtmjpjbmeamnfpaaGreatDoorZc0
import Derived.Shelf.Strings.SlTrimAscii
import Derived.WalkSmall
import Derived.Lib.SmallJoins
import Derived.Test.YtmjpjbmeamnfpaaGreatDoorCards
import Derived.Test.YtmjpjbmeamnfpaaGreatDoorTie
import Derived.WalkKit
import Derived.ProofKit
import Derived.OpenShut
import Derived.Deep.DeepHandedRow
import Derived.Deep.DeepWitnessRowRef
import Derived.Lib.LaidTab
import Derived.Lib.LaidU8T
import Derived.Lib.LaidIn
import Derived.Lib.TrailingZeros
import Derived.Stop.LaidErr
import Derived.ChangeBears2
set_option linter.unusedVariables false
set_option linter.unusedSimpArgs false
set_option maxRecDepth 100000
namespace Go.Proofs.YtmjpjbmeamnfpaaGreatDoor
open Go.Eng
theorem MK:Tryz.prog.follows .mixedOrders=true:=by kernel_rfl
theorem PN(s:A1)(i:Int)(w:World)(h0:0<=i):
  Calls Tryz.prog 133 [(str s),(i64 i)].toArray w λ e w'=>e= .returned (.bool (cont s i))/\w'=w:=by
 refine CW.BN Tryz.func133 U Tryz.ntmps133 (Nat.le_of_ble_eq_true U) λ Q hE=>?_
 refine CW.weaken [0,1] (L':=[Y 0 (str s),Y 1 (i64 i)]) ?_ U
 refine CW.sr (RL.u (.assign .c) U (RL.nil (CW.id (CW.sr ?_))))
 refine RL.m U U (RL.m U U (RL.u (.BZ (.t U) Tryz.underlying9) U (RL.u (.lss (.t U) (.t U)) U (RL.m U U (RL.v (.pos U U) (.move (.t U)) U ?_)))))
 refine RL.v (.pos U U) (.move (.t U)) U (RL.v (.pos U U) (.C4 (.g U (λ h=>h)) (.g U (λ h=>h)) Tryz.underlying9 (λ hW=>by simp only[zb]at hW;omega)) U (RL.v (.pos U U) (.geq (.g U (λ h=>h)) .c) U (RL.u (.and (.t U) (.g U (λ h=>h))) U (RL.m U U (RL.v (.pos U U) (.move (.t U)) U ?_)))))
 refine RL.v (.pos U U) (.move (.t U)) U (RL.v (.pos U U) (.C4 (.g U (λ h=>h)) (.g U (λ h=>h)) Tryz.underlying9 (λ hW=>by simp only[zb]at hW;omega)) U (RL.v (.pos U U) (.lss (.g U (λ h=>h)) .c) U (RL.u (.and (.t U) (.g U (λ h=>h))) U (RL.a U U (RL.nil (CW.id ?_))))))
 refine CW.ret (hE.r1 U U ?_)
 exact⟨rfl,rfl⟩
theorem eM(s:A1)(i:Int)(w:World)(h0:0<=i)(h1:i<len s)(hb:len s<=9223372036854775807):
  Calls Tryz.prog 88 [(str s),(i64 i)].toArray w λ e w'=>e= .returned (i64 (rune s i))/\w'=w:=by
 refine CW.BN Tryz.func88 U Tryz.ntmps88 (Nat.le_of_ble_eq_true U) λ Q hE=>?_
 have hbd:=L4 s i
 refine CW.weaken [0,1] (L':=[Y 0 (str s),Y 1 (i64 i)]) ?_ U
 refine CW.sr (RL.u (.assign .c) U (RL.nil (CW.id (CW.sr ?_))))
 refine RL.m U U (RL.m U U (RL.u (.C4 (.t U) (.t U) Tryz.underlying9 (λ _=>by omega)) U (RL.a U U (RL.nil (CW.id ?_)))))
 refine CW.seq (CW.block (CW.sr (RL.m U U (RL.u (.lss (.t U) .c) U (RL.a U U (RL.nil (CW.id ?_)))))))
 refine CW.cond rfl ?_ ?_<;>intro hb1<;>try simp only[zb]at hb1
 ·refine CW.sr (RL.u (.assign .c) U (RL.nil (CW.id (CW.ret (hE.r1 U U ?_)))))
  clear hE
  refine⟨congrArg (λ x=>Ending.returned (i64 x)) ?_,rfl⟩
  unfold rune;(try dsimp only);(repeat' split)
  all_goals first|rfl|(exfalso;simp only[zb]at*;omega)|(exfalso;simp_all;done)|(exfalso;simp_all;omega)
 ·refine CW.sr (RL.m U U (RL.u (.geq (.t U) .c) U (RL.m U U (RL.v (.pos U U) (.move (.t U)) U (RL.v (.pos U U) (.lss (.g U (λ h=>h)) .c) U (RL.u (.and (.t U) (.g U (λ h=>h))) U (RL.m U U (RL.v (.pos U U) (.move (.t U)) U (RL.v (.pos U U) (.move (.t U)) U (RL.v (.pos U U) (.add (.g U (λ h=>h)) .c (λ hW=>by simp only[zb]at hW;first|omega|(unfold cont at*;simp only[zb]at*;omega))) U ?_))))))))))
  refine RL.DC (.pos U U) Tryz.call133 (.cons (.g U (λ h=>h)) (.cons (.g U (λ h=>h)) .nil)) (λ hW=>by simp only[zb]at hW;exact(PN s (i+1) _ (by omega))) U ?_
  refine RL.u (.and (.t U) (.g U (λ h=>h))) U (RL.a U U ?_)
  refine RL.nil (CW.at [Y 0 (str s),Y 1 (i64 i),Y 5 (.int .u8 (A3 s i)),Y 12 (.bool (((decide (194<=(A3 s i)))&&(decide ((A3 s i)<224)))&&(cont s (i+1))))] U ?_)
  refine CW.cond rfl ?_ ?_<;>intro hb2<;>try simp only[zb]at hb2
  ·refine CW.sr (RL.u (.assign .c) U (RL.nil (CW.id (CW.ret (hE.r1 U U ?_)))))
   clear hE
   refine⟨congrArg (λ x=>Ending.returned (i64 x)) ?_,rfl⟩
   unfold rune;(try dsimp only);(repeat' split)
   all_goals first|rfl|(exfalso;simp only[zb]at*;omega)|(exfalso;simp_all;done)|(exfalso;simp_all;omega)
  ·refine CW.sr (RL.m U U (RL.u (.geq (.t U) .c) U (RL.m U U (RL.v (.pos U U) (.move (.t U)) U (RL.v (.pos U U) (.lss (.g U (λ h=>h)) .c) U (RL.u (.and (.t U) (.g U (λ h=>h))) U (RL.m U U (RL.v (.pos U U) (.move (.t U)) U (RL.v (.pos U U) (.move (.t U)) U (RL.v (.pos U U) (.add (.g U (λ h=>h)) .c (λ hW=>by simp only[zb]at hW;first|omega|(unfold cont at*;simp only[zb]at*;omega))) U ?_))))))))))
   refine RL.DC (.pos U U) Tryz.call133 (.cons (.g U (λ h=>h)) (.cons (.g U (λ h=>h)) .nil)) (λ hW=>by simp only[zb]at hW;exact(PN s (i+1) _ (by omega))) U ?_
   refine RL.u (.and (.t U) (.g U (λ h=>h))) U (RL.m U U (RL.v (.pos U U) (.move (.t U)) U (RL.v (.pos U U) (.move (.t U)) U (RL.v (.pos U U) (.add (.g U (λ h=>h)) .c (λ hW=>by simp only[zb]at hW;first|omega|(unfold cont at*;simp only[zb]at*;omega))) U ?_))))
   refine RL.DC (.pos U U) Tryz.call133 (.cons (.g U (λ h=>h)) (.cons (.g U (λ h=>h)) .nil)) (λ hW=>by simp only[zb]at hW;exact(PN s (i+2) _ (by omega))) U ?_
   refine RL.u (.and (.t U) (.g U (λ h=>h))) U (RL.a U U ?_)
   refine RL.nil (CW.at [Y 0 (str s),Y 1 (i64 i),Y 5 (.int .u8 (A3 s i)),Y 25 (.bool ((((decide (224<=(A3 s i)))&&(decide ((A3 s i)<240)))&&(cont s (i+1)))&&(cont s (i+2))))] U ?_)
   refine CW.cond rfl ?_ ?_<;>intro hb3<;>try simp only[zb]at hb3
   ·refine CW.seq (CW.sr (RL.m U U (RL.u (.eql (.t U) .c) U (RL.m U U (RL.v (.pos U U) (.move (.t U)) U (RL.v (.pos U U) (.move (.t U)) U (RL.v (.pos U U) (.add (.g U (λ h=>h)) .c (λ hW=>by simp only[zb]at hW;first|omega|(unfold cont at*;simp only[zb]at*;omega))) U (RL.v (.pos U U) (.C4 (.g U (λ h=>h)) (.g U (λ h=>h)) Tryz.underlying9 (λ hW=>by simp only[zb]at hW;first|omega|(unfold cont at*;simp only[zb]at*;omega))) U (RL.v (.pos U U) (.lss (.g U (λ h=>h)) .c) U (RL.u (.and (.t U) (.g U (λ h=>h))) U (RL.m U U (RL.v (.neg U U) (.move (.t U)) U (RL.v (.neg U U) (.eql (.g U (λ h=>h)) .c) U ?_)))))))))))))
    refine RL.v (.neg U U) (.move (.g U (λ h=>h))) U (RL.v (.E4 U U) (.move (.t U)) U (RL.v (.E4 U U) (.move (.t U)) U (RL.v (.E4 U U) (.add (.g U (λ h=>h)) .c (λ hW=>by simp only[zb]at hW;first|omega|(unfold cont at*;simp only[zb]at*;omega))) U (RL.v (.E4 U U) (.C4 (.g U (λ h=>h)) (.g U (λ h=>h)) Tryz.underlying9 (λ hW=>by simp only[zb]at hW;first|omega|(unfold cont at*;simp only[zb]at*;omega))) U (RL.v (.E4 U U) (.geq (.g U (λ h=>h)) .c) U ?_)))))
    refine RL.v (.neg U U) (.and (.g U (λ h=>h)) (.g U (λ h=>h))) U (RL.u (.or (.t U) (.g U (λ h=>h))) U (RL.nil (CW.id ?_)))
    refine CW.cond rfl ?_ ?_<;>intro hb4<;>try simp only[zb]at hb4
    ·refine CW.sr (RL.u (.assign .c) U (RL.nil (CW.id (CW.ret (hE.r1 U U ?_)))))
     clear hE
     refine⟨congrArg (λ x=>Ending.returned (i64 x)) ?_,rfl⟩
     unfold rune;(try dsimp only);(repeat' split)
     all_goals first|rfl|(exfalso;simp only[zb]at*;omega)|(exfalso;simp_all;done)|(exfalso;simp_all;omega)
    ·refine CW.skip (CW.id (CW.sr (RL.u (.assign .c) U (RL.nil (CW.id ?_)))))
     refine CW.ret (hE.r1 U U ?_)
     clear hE
     refine⟨congrArg (λ x=>Ending.returned (i64 x)) ?_,rfl⟩
     unfold rune;(try dsimp only);(repeat' split)
     all_goals first|rfl|(exfalso;simp only[zb]at*;omega)|(exfalso;simp_all;done)|(exfalso;simp_all;omega)
   ·refine CW.sr (RL.m U U (RL.u (.geq (.t U) .c) U (RL.m U U (RL.v (.pos U U) (.move (.t U)) U (RL.v (.pos U U) (.lss (.g U (λ h=>h)) .c) U (RL.u (.and (.t U) (.g U (λ h=>h))) U (RL.m U U (RL.v (.pos U U) (.move (.t U)) U (RL.v (.pos U U) (.move (.t U)) U (RL.v (.pos U U) (.add (.g U (λ h=>h)) .c (λ hW=>by simp only[zb]at hW;first|omega|(unfold cont at*;simp only[zb]at*;omega))) U ?_))))))))))
    refine RL.DC (.pos U U) Tryz.call133 (.cons (.g U (λ h=>h)) (.cons (.g U (λ h=>h)) .nil)) (λ hW=>by simp only[zb]at hW;exact(PN s (i+1) _ (by omega))) U ?_
    refine RL.u (.and (.t U) (.g U (λ h=>h))) U (RL.m U U (RL.v (.pos U U) (.move (.t U)) U (RL.v (.pos U U) (.move (.t U)) U (RL.v (.pos U U) (.add (.g U (λ h=>h)) .c (λ hW=>by simp only[zb]at hW;first|omega|(unfold cont at*;simp only[zb]at*;omega))) U ?_))))
    refine RL.DC (.pos U U) Tryz.call133 (.cons (.g U (λ h=>h)) (.cons (.g U (λ h=>h)) .nil)) (λ hW=>by simp only[zb]at hW;exact(PN s (i+2) _ (by omega))) U ?_
    refine RL.u (.and (.t U) (.g U (λ h=>h))) U (RL.m U U (RL.v (.pos U U) (.move (.t U)) U (RL.v (.pos U U) (.move (.t U)) U (RL.v (.pos U U) (.add (.g U (λ h=>h)) .c (λ hW=>by simp only[zb]at hW;first|omega|(unfold cont at*;simp only[zb]at*;omega))) U ?_))))
    refine RL.DC (.pos U U) Tryz.call133 (.cons (.g U (λ h=>h)) (.cons (.g U (λ h=>h)) .nil)) (λ hW=>by simp only[zb]at hW;exact(PN s (i+3) _ (by omega))) U ?_
    refine RL.u (.and (.t U) (.g U (λ h=>h))) U (RL.a U U ?_)
    refine RL.nil (CW.at [Y 0 (str s),Y 1 (i64 i),Y 5 (.int .u8 (A3 s i)),Y 64 (.bool (((((decide (240<=(A3 s i)))&&(decide ((A3 s i)<245)))&&(cont s (i+1)))&&(cont s (i+2)))&&(cont s (i+3))))] U ?_)
    refine CW.cond rfl ?_ ?_<;>intro hb5<;>try simp only[zb]at hb5
    ·refine CW.seq (CW.sr (RL.m U U (RL.u (.eql (.t U) .c) U (RL.m U U (RL.v (.pos U U) (.move (.t U)) U (RL.v (.pos U U) (.move (.t U)) U (RL.v (.pos U U) (.add (.g U (λ h=>h)) .c (λ hW=>by simp only[zb]at hW;first|omega|(unfold cont at*;simp only[zb]at*;omega))) U (RL.v (.pos U U) (.C4 (.g U (λ h=>h)) (.g U (λ h=>h)) Tryz.underlying9 (λ hW=>by simp only[zb]at hW;first|omega|(unfold cont at*;simp only[zb]at*;omega))) U (RL.v (.pos U U) (.lss (.g U (λ h=>h)) .c) U (RL.u (.and (.t U) (.g U (λ h=>h))) U (RL.m U U (RL.v (.neg U U) (.move (.t U)) U (RL.v (.neg U U) (.eql (.g U (λ h=>h)) .c) U ?_)))))))))))))
     refine RL.v (.neg U U) (.move (.g U (λ h=>h))) U (RL.v (.E4 U U) (.move (.t U)) U (RL.v (.E4 U U) (.move (.t U)) U (RL.v (.E4 U U) (.add (.g U (λ h=>h)) .c (λ hW=>by simp only[zb]at hW;first|omega|(unfold cont at*;simp only[zb]at*;omega))) U (RL.v (.E4 U U) (.C4 (.g U (λ h=>h)) (.g U (λ h=>h)) Tryz.underlying9 (λ hW=>by simp only[zb]at hW;first|omega|(unfold cont at*;simp only[zb]at*;omega))) U (RL.v (.E4 U U) (.geq (.g U (λ h=>h)) .c) U ?_)))))
     refine RL.v (.neg U U) (.and (.g U (λ h=>h)) (.g U (λ h=>h))) U (RL.u (.or (.t U) (.g U (λ h=>h))) U (RL.nil (CW.id ?_)))
     refine CW.cond rfl ?_ ?_<;>intro hb6<;>try simp only[zb]at hb6
     ·refine CW.sr (RL.u (.assign .c) U (RL.nil (CW.id (CW.ret (hE.r1 U U ?_)))))
      clear hE
      refine⟨congrArg (λ x=>Ending.returned (i64 x)) ?_,rfl⟩
      unfold rune;(try dsimp only);(repeat' split)
      all_goals first|rfl|(exfalso;simp only[zb]at*;omega)|(exfalso;simp_all;done)|(exfalso;simp_all;omega)
     ·refine CW.skip (CW.id (CW.sr (RL.u (.assign .c) U (RL.nil (CW.id ?_)))))
      refine CW.ret (hE.r1 U U ?_)
      clear hE
      refine⟨congrArg (λ x=>Ending.returned (i64 x)) ?_,rfl⟩
      unfold rune;(try dsimp only);(repeat' split)
      all_goals first|rfl|(exfalso;simp only[zb]at*;omega)|(exfalso;simp_all;done)|(exfalso;simp_all;omega)
    ·refine CW.skip (CW.id (CW.sr (RL.u (.assign .c) U (RL.nil (CW.id ?_)))))
     refine CW.ret (hE.r1 U U ?_)
     clear hE
     refine⟨congrArg (λ x=>Ending.returned (i64 x)) ?_,rfl⟩
     unfold rune;(try dsimp only);(repeat' split)
     all_goals first|rfl|(exfalso;simp only[zb]at*;omega)|(exfalso;simp_all;done)|(exfalso;simp_all;omega)
theorem Y0(s:A1)(w:World)(hb:len s<=9223372036854775807):
  Calls Tryz.prog 59 [(str s)].toArray w λ e w'=>e= .returned (.bool (E6 s))/\w'=w:=by
 refine CW.BN Tryz.func59 U Tryz.ntmps59 (Nat.le_of_ble_eq_true U) λ Q hE=>?_
 have:=AA s
 refine CW.weaken [0] (L':=[Y 0 (str s)]) ?_ U
 refine CW.sr (RL.u (.assign .c) U (RL.nil (CW.id (CW.sr ?_))))
 refine RL.u (.assign .c) U (RL.nil (CW.id ?_))
 refine CW.seq (CW.block ?_)
 refine CW.loop (σ:=Int) (λ k=>[Y 0 (str s),Y 3 (i64 k)]) (λ k wl=>w=wl/\0<=k/\GJ s k=E6 s) (λ k=>(len s-k).toNat) 0 [0,3] U ?_ ?_
 ·exact⟨rfl,by omega,rfl⟩
 ·rintro k wl ⟨rfl,hk0,hkF⟩
  have hr:=L8 s k
  have hrl:=rune_le s k
  refine CW.seq (CW.sr (RL.m U U (RL.m U U (RL.u (.BZ (.t U) Tryz.underlying9) U (RL.u (.lss (.t U) (.t U)) U (RL.nil (CW.id ?_)))))))
  refine CW.cond rfl ?_ ?_<;>intro hb1<;>try simp only[zb]at hb1
  ·refine CW.skip (CW.id (CW.block (CW.sr (RL.m U U (RL.m U U ?_)))))
   refine RL.DC .none Tryz.call88 (.cons (.t U) (.cons (.t U) .nil)) (λ _=>(eM s k _ (by omega) (by omega) (by omega))) U ?_
   refine RL.a U U ?_
   refine RL.nil (CW.at [Y 0 (str s),Y 3 (i64 k),Y 4 (i64 (rune s k))] U (CW.seq (CW.sr (RL.m U U (RL.u (.eql (.t U) .c) U (RL.nil (CW.id ?_)))))))
   refine CW.cond rfl ?_ ?_<;>intro hb2<;>try simp only[zb]at hb2
   ·refine CW.sr (RL.u (.assign .c) U (RL.nil (CW.id (CW.ret (hE.r1 U U ?_)))))
    exact⟨by rw[<-hkF,RE s k hk0 hb1 (by omega)],rfl⟩
   ·refine CW.skip (CW.id ?_)
    refine CW.region (RL.m U U (RL.m U U (RL.u (.add (.t U) (.t U) (λ _=>by omega)) U (RL.a U U ?_))))
    refine RL.nil λ a hs=>Exists.intro (k+rune s k) ⟨hs.BG [0,3],?_,?_⟩
    ·exact⟨rfl,by omega,by rw[<-hkF,MI s k hk0 hb1 (by omega)]⟩
    ·show Int.toNat _<Int.toNat _;omega
  ·refine CW.exit (CW.at [] U ?_)
   refine CW.sr (RL.u (.assign .c) U (RL.nil (CW.id (CW.ret (hE.r1 U U ?_)))))
   exact⟨by rw[<-hkF,UB s k (by omega)],rfl⟩
theorem UG(s:A1)(w:World)(hb:len s<=9223372036854775807):
  Calls Tryz.prog 52 [(str s)].toArray w λ e w'=>e= .returned (.bool (D7 s))/\w'=w:=by
 refine CW.BN Tryz.func52 U Tryz.ntmps52 (Nat.le_of_ble_eq_true U) λ Q hE=>?_
 have:=AA s
 refine CW.weaken [0] (L':=[Y 0 (str s)]) ?_ U
 refine CW.sr (RL.u (.assign .c) U (RL.nil (CW.id (CW.seq ?_))))
 refine CW.sr (RL.u (.assign .c) U (RL.nil (CW.id (CW.block ?_))))
 refine CW.loop (σ:=Int) (λ k=>[Y 0 (str s),Y 3 (i64 k)]) (λ k wl=>w=wl/\0<=k/\k<=len s/\K9 s k=D7 s) (λ k=>(len s-k).toNat) 0 [0,3] U ?_ ?_
 ·exact⟨rfl,by omega,by omega,rfl⟩
 ·rintro k wl ⟨rfl,hk0,hk1,hkF⟩
  refine CW.seq (CW.sr (RL.m U U (RL.m U U (RL.u (.BZ (.t U) Tryz.underlying9) U (RL.u (.lss (.t U) (.t U)) U (RL.nil (CW.id ?_)))))))
  refine CW.cond rfl ?_ ?_<;>intro hb1<;>try simp only[zb]at hb1
  ·refine CW.skip (CW.id (CW.seq (CW.block (CW.sr ?_))))
   refine RL.m U U (RL.m U U (RL.u (.C4 (.t U) (.t U) Tryz.underlying9 (λ _=>by omega)) U (RL.a U U (RL.nil (CW.id ?_)))))
   refine CW.sr (RL.m U U (RL.u (.geq (.t U) .c) U (RL.m U U (RL.v (.pos U U) (.move (.t U)) U (RL.v (.pos U U) (.leq (.g U (λ h=>h)) .c) U (RL.u (.and (.t U) (.g U (λ h=>h))) U (RL.m U U (RL.v (.neg U U) (.move (.t U)) U (RL.v (.neg U U) (.geq (.g U (λ h=>h)) .c) U (RL.v (.neg U U) (.move (.g U (λ h=>h))) U (RL.v (.E4 U U) (.move (.t U)) U (RL.v (.E4 U U) (.leq (.g U (λ h=>h)) .c) U (RL.v (.neg U U) (.and (.g U (λ h=>h)) (.g U (λ h=>h))) U (RL.u (.or (.t U) (.g U (λ h=>h))) U (RL.m U U (RL.v (.neg U U) (.move (.t U)) U (RL.v (.neg U U) (.eql (.g U (λ h=>h)) .c) U (RL.u (.or (.t U) (.g U (λ h=>h))) U ?_))))))))))))))))))
   refine RL.a U U (RL.nil (CW.id ?_))
   refine CW.sr (RL.m U U (RL.u (.not (.t U)) U (RL.m U U (RL.v (.pos U U) (.move (.t U)) U (RL.v (.pos U U) (.eql (.g U (λ h=>h)) .c) U (RL.v (.pos U U) (.move (.g U (λ h=>h))) U (RL.v (.PC U U) (.move (.t U)) U (RL.v (.PC U U) (.lss (.g U (λ h=>h)) .c) U (RL.v (.pos U U) (.or (.g U (λ h=>h)) (.g U (λ h=>h))) U (RL.v (.pos U U) (.move (.g U (λ h=>h))) U (RL.v (.PC U U) (.move (.t U)) U (RL.v (.PC U U) (.gtr (.g U (λ h=>h)) .c) U (RL.v (.pos U U) (.or (.g U (λ h=>h)) (.g U (λ h=>h))) U (RL.u (.and (.t U) (.g U (λ h=>h))) U ?_))))))))))))))
   refine RL.nil (CW.at [Y 0 (str s),Y 3 (i64 k),Y 46 (.bool ((!((((decide (97<=(A3 s k)))&&(decide ((A3 s k)<=122)))||((decide (65<=(A3 s k)))&&(decide ((A3 s k)<=90))))||((A3 s k)==95)))&&(((k==0)||(decide ((A3 s k)<48)))||(decide (57<(A3 s k))))))] U ?_)
   refine CW.cond rfl ?_ ?_<;>intro hb2<;>try simp only[zb]at hb2
   ·refine CW.sr (RL.u (.assign .c) U (RL.nil (CW.id (CW.ret (hE.r1 U U ?_)))))
    exact⟨by rw[<-hkF,dX s k hk0 hb1 (by simp only[EB,BM,zb];omega)],rfl⟩
   ·refine CW.skip (CW.id ?_)
    refine CW.region (RL.m U U (RL.u (.add (.t U) .c (λ _=>by omega)) U (RL.a U U ?_)))
    refine RL.nil λ a hs=>Exists.intro (k+1) ⟨hs.BG [0,3],?_,?_⟩
    ·exact⟨rfl,by omega,by omega,by rw[<-hkF,dW s k hk0 hb1 (by simp only[EB,BM,zb];omega)]⟩
    ·show Int.toNat _<Int.toNat _;omega
  ·refine CW.exit (CW.at [Y 0 (str s)] U ?_)
   refine CW.sr (RL.m U U (RL.u (.MF (.t U) .c) U (RL.a U U (RL.nil (CW.id (CW.ret (hE.r1 U U ?_)))))))
   exact⟨by rw[<-hkF,dY s k (by omega)];rfl,rfl⟩
theorem rD(s:A1)(w:World)(hb:len s<=9223372036854775807):
  Calls Tryz.prog 234 [(str s)].toArray w λ e w'=>e= .returned (.bool (I3 s))/\w'=w:=by
 refine CW.BN Tryz.func234 U Tryz.ntmps234 (Nat.le_of_ble_eq_true U) λ Q hE=>?_
 have:=AA s
 refine CW.weaken [0] (L':=[Y 0 (str s)]) ?_ U
 refine CW.sr (RL.u (.assign .c) U (RL.nil (CW.id (CW.seq ?_))))
 refine CW.sr (RL.u (.assign .c) U (RL.nil (CW.id (CW.block ?_))))
 refine CW.loop (σ:=Int) (λ k=>[Y 0 (str s),Y 3 (i64 k)]) (λ k wl=>w=wl/\0<=k/\k<=len s/\KA s k=I3 s) (λ k=>(len s-k).toNat) 0 [0,3] U ?_ ?_
 ·exact⟨rfl,by omega,by omega,rfl⟩
 ·rintro k wl ⟨rfl,hk0,hk1,hkF⟩
  refine CW.seq (CW.sr (RL.m U U (RL.m U U (RL.u (.BZ (.t U) Tryz.underlying9) U (RL.u (.lss (.t U) (.t U)) U (RL.nil (CW.id ?_)))))))
  refine CW.cond rfl ?_ ?_<;>intro hb1<;>try simp only[zb]at hb1
  ·refine CW.skip (CW.id (CW.seq (CW.block (CW.sr ?_))))
   refine RL.m U U (RL.m U U (RL.u (.C4 (.t U) (.t U) Tryz.underlying9 (λ _=>by omega)) U (RL.u (.lss (.t U) .c) U (RL.m U U (RL.v (.neg U U) (.move (.t U)) U ?_)))))
   refine RL.v (.neg U U) (.move (.t U)) U (RL.v (.neg U U) (.C4 (.g U (λ h=>h)) (.g U (λ h=>h)) Tryz.underlying9 (λ hW=>by simp only[zb]at hW;omega)) U (RL.v (.neg U U) (.gtr (.g U (λ h=>h)) .c) U (RL.u (.or (.t U) (.g U (λ h=>h))) U (RL.nil (CW.id ?_)))))
   refine CW.cond rfl ?_ ?_<;>intro hb2<;>try simp only[zb]at hb2
   ·refine CW.sr (RL.u (.assign .c) U (RL.nil (CW.id (CW.ret (hE.r1 U U ?_)))))
    exact⟨by rw[<-hkF,e8 s k hk0 hb1 (by simp only[BM,zb];omega)],rfl⟩
   ·refine CW.skip (CW.id ?_)
    refine CW.region (RL.m U U (RL.u (.add (.t U) .c (λ _=>by omega)) U (RL.a U U ?_)))
    refine RL.nil λ a hs=>Exists.intro (k+1) ⟨hs.BG [0,3],?_,?_⟩
    ·exact⟨rfl,by omega,by omega,by rw[<-hkF,dZ s k hk0 hb1 (by simp only[BM,zb];omega)]⟩
    ·show Int.toNat _<Int.toNat _;omega
  ·refine CW.exit (CW.at [] U ?_)
   refine CW.sr (RL.u (.assign .c) U (RL.nil (CW.id (CW.ret (hE.r1 U U ?_)))))
   exact⟨by rw[<-hkF,XT s k (by omega)],rfl⟩
theorem rE(n:Nd)(w:World)(hb:len n.s<=9223372036854775807):
  Calls Tryz.prog 191 [(JF n)].toArray w λ e w'=>e= .returned (.bool (GK n))/\Ext w w':=by
 refine CW.BN Tryz.func191 U Tryz.ntmps191 (Nat.le_of_ble_eq_true U) λ Q hE=>?_
 have hn0:=AA n.s
 have hS:St w nM w nM []:=St.start ⟨λ _ _ _ h=>by cases h⟩
 refine CW.weaken [0] (L':=[Y 0 (JF n)]) ?_ U
 refine CW.sr ?_
 refine RL.box (v:=(JF n)) hS (.t U) U (λ w1 b2 hS3=>?_)
 refine RL.u (.assign .c) U (RL.nil (CW.id ?_))
 refine CW.seq (CW.sr (RL.u (.BR (q:=⟨b2,0,none⟩) (.t U) (λ w=>by kernel_rfl)) U (RL.u (.BA (v:=(i64 n.kind)) hS3 AX (i:=0) U (.t U) Tryz.isAgg3 U) U (RL.u (.neq (.t U) .c) U (RL.m U U (RL.v (.neg U U) (.BR (q:=⟨b2,1,none⟩) (.t U) (λ w=>by kernel_rfl)) U (RL.v (.neg U U) (.BA (v:=(i64 n.many)) hS3 AX (i:=0) U (.g U (λ h=>h)) Tryz.isAgg3 U) U (RL.v (.neg U U) (.neq (.g U (λ h=>h)) .c) U (RL.u (.or (.t U) (.g U (λ h=>h))) U (RL.m U U (RL.v (.neg U U) (.BR (q:=⟨b2,2,none⟩) (.t U) (λ w=>by kernel_rfl)) U (RL.v (.neg U U) (.BA (v:=(str n.name)) hS3 AX (i:=0) U (.g U (λ h=>h)) Tryz.isAgg9 U) U (RL.v (.neg U U) (.MF (.g U (λ h=>h)) .c) U ?_)))))))))))))
 refine RL.u (.or (.t U) (.g U (λ h=>h))) U (RL.m U U (RL.v (.neg U U) (.BR (q:=⟨b2,3,none⟩) (.t U) (λ w=>by kernel_rfl)) U (RL.v (.neg U U) (.BA (v:=(str n.s)) hS3 AX (i:=0) U (.g U (λ h=>h)) Tryz.isAgg9 U) U ?_)))
 refine RL.DC (.neg U U) Tryz.call234 (.cons (.g U (λ h=>h)) .nil) (λ hW=>by simp only[zb]at hW;exact(rD n.s _ (by omega))) U ?_
 refine RL.v (.neg U U) (.not (.g U (λ h=>h))) U (RL.u (.or (.t U) (.g U (λ h=>h))) U (RL.m U U (RL.v (.neg U U) (.BR (q:=⟨b2,3,none⟩) (.t U) (λ w=>by kernel_rfl)) U (RL.v (.neg U U) (.BA (v:=(str n.s)) hS3 AX (i:=0) U (.g U (λ h=>h)) Tryz.isAgg9 U) U (RL.v (.neg U U) (.BZ (.g U (λ h=>h)) Tryz.underlying9) U ?_)))))
 refine RL.v (.neg U U) (.gtr (.g U (λ h=>h)) .c) U (RL.u (.or (.t U) (.g U (λ h=>h))) U (RL.m U U (RL.v (.neg U U) (.BR (q:=⟨b2,5,none⟩) (.t U) (λ w=>by kernel_rfl)) U (RL.v (.neg U U) (.BA (v:=(i64 n.e)) hS3 AX (i:=0) U (.g U (λ h=>h)) Tryz.isAgg3 U) U (RL.v (.neg U U) (.lss (.g U (λ h=>h)) .c) U ?_)))))
 refine RL.u (.or (.t U) (.g U (λ h=>h))) U (RL.m U U (RL.v (.neg U U) (.BR (q:=⟨b2,5,none⟩) (.t U) (λ w=>by kernel_rfl)) U (RL.v (.neg U U) (.BA (v:=(i64 n.e)) hS3 AX (i:=0) U (.g U (λ h=>h)) Tryz.isAgg3 U) U (RL.v (.neg U U) (.gtr (.g U (λ h=>h)) .c) U (RL.u (.or (.t U) (.g U (λ h=>h))) U ?_)))))
 refine RL.m U U (RL.v (.neg U U) (.BR (q:=⟨b2,3,none⟩) (.t U) (λ w=>by kernel_rfl)) U (RL.v (.neg U U) (.BA (v:=(str n.s)) hS3 AX (i:=0) U (.g U (λ h=>h)) Tryz.isAgg9 U) U (RL.v (.neg U U) (.BZ (.g U (λ h=>h)) Tryz.underlying9) U (RL.v (.neg U U) (.BR (q:=⟨b2,5,none⟩) (.t U) (λ w=>by kernel_rfl)) U (RL.v (.neg U U) (.BA (v:=(i64 n.e)) hS3 AX (i:=0) U (.g U (λ h=>h)) Tryz.isAgg3 U) U ?_)))))
 refine RL.v (.neg U U) (.add (.g U (λ h=>h)) (.g U (λ h=>h)) (λ hW=>by simp only[zb]at hW;omega)) U (RL.v (.neg U U) (.gtr (.g U (λ h=>h)) .c) U (RL.u (.or (.t U) (.g U (λ h=>h))) U ?_))
 refine RL.nil (CW.at [Y 1 (.pointer (some ⟨b2,0,none⟩)),Y 46 (.bool ((((((((n.kind != 3)||(n.many != 0))||(!(n.name==[])))||(!(I3 n.s)))||(decide (100<(len n.s))))||(decide (n.e<((-1000)))))||(decide (1000<n.e)))||(decide (1000<((len n.s)+n.e)))))] U ?_)
 refine CW.cond rfl ?_ ?_<;>intro hb1<;>try simp only[zb]at hb1
 ·refine CW.sr (RL.u (.assign .c) U (RL.nil (CW.id (CW.ret (hE.r1 U U ?_)))))
  clear hE
  refine⟨congrArg (λ x=>Ending.returned (.bool x)) ?_,hS3.low⟩
  unfold GK;(try dsimp only);(repeat' split)
  all_goals first|rfl|(exfalso;simp only[zb]at*;omega)|(exfalso;simp_all;done)|(exfalso;simp_all;omega)
 ·refine CW.skip (CW.id (CW.seq (CW.sr (RL.u (.BR (q:=⟨b2,3,none⟩) (.t U) (λ w=>by kernel_rfl)) U (RL.u (.BA (v:=(str n.s)) hS3 AX (i:=0) U (.t U) Tryz.isAgg9 U) U (RL.u (.NI (.t U) .c) U (RL.nil (CW.id ?_))))))))
  refine CW.cond rfl ?_ ?_<;>intro hb2<;>try simp only[zb]at hb2
  ·refine CW.sr (RL.u (.BR (q:=⟨b2,4,none⟩) (.t U) (λ w=>by kernel_rfl)) U (RL.u (.BA (v:=(.bool n.neg)) hS3 AX (i:=0) U (.t U) Tryz.isAgg4 U) U (RL.u (.not (.t U)) U (RL.m U U (RL.v (.pos U U) (.BR (q:=⟨b2,5,none⟩) (.t U) (λ w=>by kernel_rfl)) U (RL.v (.pos U U) (.BA (v:=(i64 n.e)) hS3 AX (i:=0) U (.g U (λ h=>h)) Tryz.isAgg3 U) U (RL.v (.pos U U) (.eql (.g U (λ h=>h)) .c) U (RL.u (.and (.t U) (.g U (λ h=>h))) U (RL.a U U (RL.nil (CW.id ?_)))))))))))
   refine CW.ret (hE.r1 U U ?_)
   clear hE
   refine⟨congrArg (λ x=>Ending.returned (.bool x)) ?_,hS3.low⟩
   unfold GK;(try dsimp only);(repeat' split)
   all_goals first|rfl|(exfalso;simp only[zb]at*;omega)|(exfalso;simp_all;done)|(exfalso;simp_all;omega)
  ·have hpos:=HC hb2
   refine CW.skip (CW.id (CW.sr (RL.u (.BR (q:=⟨b2,3,none⟩) (.t U) (λ w=>by kernel_rfl)) U (RL.u (.BA (v:=(str n.s)) hS3 AX (i:=0) U (.t U) Tryz.isAgg9 U) U (RL.u (.C4 (.t U) .c Tryz.underlying9 (λ _=>by omega)) U (RL.u (.neq (.t U) .c) U (RL.m U U (RL.v (.pos U U) (.BR (q:=⟨b2,3,none⟩) (.t U) (λ w=>by kernel_rfl)) U (RL.v (.pos U U) (.BA (v:=(str n.s)) hS3 AX (i:=0) U (.g U (λ h=>h)) Tryz.isAgg9 U) U (RL.v (.pos U U) (.BR (q:=⟨b2,3,none⟩) (.t U) (λ w=>by kernel_rfl)) U (RL.v (.pos U U) (.BA (v:=(str n.s)) hS3 AX (i:=0) U (.g U (λ h=>h)) Tryz.isAgg9 U) U (RL.v (.pos U U) (.BZ (.g U (λ h=>h)) Tryz.underlying9) U (RL.v (.pos U U) (.sub (.g U (λ h=>h)) .c (λ hW=>by simp only[zb]at hW;omega)) U (RL.v (.pos U U) (.C4 (.g U (λ h=>h)) (.g U (λ h=>h)) Tryz.underlying9 (λ hW=>by simp only[zb]at hW;omega)) U ?_))))))))))))))
   refine RL.v (.pos U U) (.neq (.g U (λ h=>h)) .c) U (RL.u (.and (.t U) (.g U (λ h=>h))) U (RL.a U U (RL.nil (CW.id ?_))))
   refine CW.ret (hE.r1 U U ?_)
   clear hE
   refine⟨congrArg (λ x=>Ending.returned (.bool x)) ?_,hS3.low⟩
   unfold GK;(try dsimp only);(repeat' split)
   all_goals first|rfl|(exfalso;simp only[zb]at*;omega)|(exfalso;simp_all;done)|(exfalso;simp_all;omega)
theorem eN:Tryz.prog.underlying 46=some (.struct (Tryz.prog.fieldsOf 46)):=by kernel_rfl
theorem rF:(Tryz.prog.fieldsOf 46).toList=[⟨"Kind",3,0,false,"","",0⟩,⟨"Many",3,1,false,"","",8⟩,⟨"Name",9,2,false,"","",16⟩,⟨"S",9,3,false,"","",32⟩,⟨"Neg",4,4,false,"","",48⟩,⟨"E",3,5,false,"","",56⟩]:=by kernel_rfl
theorem eO(d:Nat)(a b:Nd)(w:World):(Op.equalIn (d+1+1) 46 (.agg (Nd.cells a).toArray) (.agg (Nd.cells b).toArray)).run Tryz.prog w= .ok (decide (a=b)) w:=by
 rw[run_equalIn_agg w _ _ _ _ eN Tryz.stoodInHeld46,rF]
 rw[JE (P:=Tryz.prog) (w:=w) (xs:=(Nd.cells a).toArray) (ys:=(Nd.cells b).toArray) (f:=⟨"Kind",3,0,false,"","",0⟩) (by decide) (show(part 3 (Nd.cells a).toArray 0).run Tryz.prog w= .ok (i64 ((a).kind)) w by kernel_rfl) (show(part 3 (Nd.cells b).toArray 0).run Tryz.prog w= .ok (i64 ((b).kind)) w by kernel_rfl) (PG Tryz.underlying3 w d ((a).kind) ((b).kind))]
 rw[JE (P:=Tryz.prog) (w:=w) (xs:=(Nd.cells a).toArray) (ys:=(Nd.cells b).toArray) (f:=⟨"Many",3,1,false,"","",8⟩) (by decide) (show(part 3 (Nd.cells a).toArray 1).run Tryz.prog w= .ok (i64 ((a).many)) w by kernel_rfl) (show(part 3 (Nd.cells b).toArray 1).run Tryz.prog w= .ok (i64 ((b).many)) w by kernel_rfl) (PG Tryz.underlying3 w d ((a).many) ((b).many))]
 rw[JE (P:=Tryz.prog) (w:=w) (xs:=(Nd.cells a).toArray) (ys:=(Nd.cells b).toArray) (f:=⟨"Name",9,2,false,"","",16⟩) (by decide) (show(part 9 (Nd.cells a).toArray 2).run Tryz.prog w= .ok (str ((a).name)) w by kernel_rfl) (show(part 9 (Nd.cells b).toArray 2).run Tryz.prog w= .ok (str ((b).name)) w by kernel_rfl) (U7 Tryz.underlying9 w d ((a).name) ((b).name))]
 rw[JE (P:=Tryz.prog) (w:=w) (xs:=(Nd.cells a).toArray) (ys:=(Nd.cells b).toArray) (f:=⟨"S",9,3,false,"","",32⟩) (by decide) (show(part 9 (Nd.cells a).toArray 3).run Tryz.prog w= .ok (str ((a).s)) w by kernel_rfl) (show(part 9 (Nd.cells b).toArray 3).run Tryz.prog w= .ok (str ((b).s)) w by kernel_rfl) (U7 Tryz.underlying9 w d ((a).s) ((b).s))]
 rw[JE (P:=Tryz.prog) (w:=w) (xs:=(Nd.cells a).toArray) (ys:=(Nd.cells b).toArray) (f:=⟨"Neg",4,4,false,"","",48⟩) (by decide) (show(part 4 (Nd.cells a).toArray 4).run Tryz.prog w= .ok (.bool ((a).neg)) w by kernel_rfl) (show(part 4 (Nd.cells b).toArray 4).run Tryz.prog w= .ok (.bool ((b).neg)) w by kernel_rfl) (XL Tryz.underlying4 w d ((a).neg) ((b).neg))]
 rw[JE (P:=Tryz.prog) (w:=w) (xs:=(Nd.cells a).toArray) (ys:=(Nd.cells b).toArray) (f:=⟨"E",3,5,false,"","",56⟩) (by decide) (show(part 3 (Nd.cells a).toArray 5).run Tryz.prog w= .ok (i64 ((a).e)) w by kernel_rfl) (show(part 3 (Nd.cells b).toArray 5).run Tryz.prog w= .ok (i64 ((b).e)) w by kernel_rfl) (PG Tryz.underlying3 w d ((a).e) ((b).e))]
 have ht:(.ok true w:Result Bool)= .ok (decide True) w:=rfl
 rw[dN,ht]
 simp only[dO]
 have hp:((a).kind=(b).kind/\(a).many=(b).many/\(a).name=(b).name/\(a).s=(b).s/\(a).neg=(b).neg/\(a).e=(b).e/\True)↔a=b:=by cases a;cases b;simp
 rw[decide_eq_decide.2 hp]
theorem Y1(x y:Operand)(a b:Nd)(w:World):(do eqGuard .eql 46 x y (.agg (Nd.cells a).toArray) (.agg (Nd.cells b).toArray);binOp .eql 46 (.agg (Nd.cells a).toArray) (.agg (Nd.cells b).toArray):Sem Value).run Tryz.prog w= .ok (.bool (decide (a=b))) w:=dP x y w Tryz.eqGuardType46 (eO 9998 a b w)
end Go.Proofs.YtmjpjbmeamnfpaaGreatDoor
namespace Go.Proofs.YtmjpjbmeamnfpaaGreatDoor
open Go.Eng Go.RowKit Go.Sort
structure Gl (w:World):Prop where
 big:0<w.heap.size/\7<w.heap.size
 u8:Lib.Utf8Tabs 1 2 w
 space:Lib.TabIs Tryz.prog w "strings.asciiSpace" .u8 Lib.asciiSpaceTab
 pow:Lib.TabIs Tryz.prog w "internal/strconv.uint64pow10" .u64 Lib.pow10Tab
 deb:w.cell? ⟨9,15,none⟩=some (.int .u8 4)
 err: ∃ev,w.cell? ⟨5,0,none⟩=some ev/\(ev= .nilIface\/ ∃t p,ev= .iface t p)
theorem RH{w w':World}(h:Below w.heap.size w w'){a:Addr}{v:Value}(hv:w.cell? a=some v):w'.cell? a=some v:=by
 have hlt:a.block<w.heap.size:=by
  rcases Nat.lt_or_ge a.block w.heap.size with h'|h'
  ·exact h'
  ·simp[World.cell?,h']at hv
 exact(h.cell hlt).trans hv
theorem Gl.low {w w':World}(g:Gl w)(h:Below w.heap.size w w'):Gl w':=by
 have hb:=g.big
 have hs:=h.size
 refine⟨⟨by omega,by omega⟩,⟨λ c hc=>RH h (g.u8.1 c hc),λ i hi=>⟨RH h (g.u8.2 i hi).1,RH h (g.u8.2 i hi).2⟩⟩,?_,?_,RH h g.deb,by obtain⟨ev,h1,h2⟩:=g.err;exact⟨ev,RH h h1,h2⟩⟩
 ·exact var?_below h (show Tryz.prog.globalNamed "strings.asciiSpace"=some 0 by kernel_rfl) hb.1 g.space
 ·exact var?_below h (show Tryz.prog.globalNamed "internal/strconv.uint64pow10"=some 7 by kernel_rfl) hb.2 g.pow
theorem UH(s p:A1)(w:World):Calls Tryz.prog 77 [str s,str p].toArray w λ e w'=>e= .returned (.bool (Lib.hasPrefix s p))/\w'=w:=Tryz.strings_HasPrefix ⟨⟨s⟩⟩ ⟨⟨p⟩⟩ w
theorem UI(s cut:A1)(w:World)(hc:len cut<4294967281)(ha: ∀(j:Nat) (b:UInt8),cut[j]? =some b->b.toNat<128):
  Calls Tryz.prog 47 [str s,str cut].toArray w λ e w'=>e= .returned (str (s.dropWhile (cut.contains ·)))/\Ext w w':=
 (Any.strings_TrimLeft_laid Tryz.oQ (by kernel_rfl) ⟨⟨s⟩⟩ ⟨⟨cut⟩⟩ w (by unfold len at hc;show cut.length<_;omega) ha)
theorem rG(s cut:A1)(w:World)(hs:len s<=9223372036854775807)(hc:len cut<4294967281)(ha: ∀(j:Nat) (b:UInt8),cut[j]? =some b->b.toNat<128):
  Calls Tryz.prog 159 [str s,str cut].toArray w λ e w'=>e= .returned (str (Lib.trimRightS s cut))/\Ext w w':=
 (Any.strings_TrimRight_laid Tryz.oS (by kernel_rfl) ⟨⟨s⟩⟩ ⟨⟨cut⟩⟩ w (by unfold len at hs;show s.length<=_;omega) (by unfold len at hc;show cut.length<_;omega) ha)
theorem rH(s:A1)(w:World)(g:Gl w)(h:0<len s):
  Calls Tryz.prog 106 [str s].toArray w λ e w'=>e= .returned (.tuple #[.int .i32 (AR s 0),i64 (runeLen s 0)])/\Ext w w':=by
 have h0: ¬(ByteArray.mk ⟨s⟩).size=0:=by show ¬s.length=0;unfold len at h;omega
 have:=Tryz.utf8_DecodeRuneInString ⟨⟨s⟩⟩ w g.u8
 rw[show Lib.decodeGo ⟨⟨s⟩⟩=Utf8.decode ⟨⟨s⟩⟩ 0 from by unfold Lib.decodeGo;rw[if_neg h0]]at this
 exact this
theorem Y2(s:A1)(c:Int)(w:World):Calls Tryz.prog 119 [str s,.int .u8 c].toArray w λ e w'=>e= .returned (i64 (Lib.indexByte s c.toNat.toUInt8))/\w'=w:=Tryz.strings_IndexByte ⟨⟨s⟩⟩ c w
theorem repeatL_one(c:UInt8): ∀n,Lib.repeatL [c] n=List.replicate n c
 |0=>rfl
 |n+1=>by rw[Lib.repeatL,repeatL_one c n];rfl
theorem rI(c:UInt8)(n:Int)(w:World)(h0:0<=n)(h1:n<=140737488355328):
  Calls Tryz.prog 169 [str [c],i64 n].toArray w λ e w'=>e= .returned (str (List.replicate n.toNat c))/\Ext w w':=by
 by_cases ha:n=0
 ·subst ha;exact(Tryz.strings_Repeat_zero ⟨⟨[c]⟩⟩ w).mono λ e w' ⟨he,hw⟩=>⟨he,hw▸Ext.refl _⟩
 ·by_cases hb:n=1
  ·subst hb;exact(Tryz.strings_Repeat_one ⟨⟨[c]⟩⟩ w).mono λ e w' ⟨he,hw⟩=>⟨he,hw▸Ext.refl _⟩
  ·have:=Tryz.strings_Repeat_main ⟨⟨[c]⟩⟩ n.toNat w (by omega) (by omega) (by show 1*_<=_;omega) (by show 0<1;omega)
   rw[show((n.toNat:Nat):Int)=n from by omega]at this
   refine this.mono λ e w' ⟨he,hw⟩=>⟨?_,hw⟩
   rw[he];show Ending.returned (str (Lib.repeatL [c] n.toNat))=_;rw[repeatL_one]
theorem rJ{w w':World}(h:Ext w w')(k:Nat):Ext w (w'.drewN k):=⟨h.os,h.tape,h.output,h.size,h.block⟩
theorem rK(w:World)(os:Array Obj):Ext w (grow w os):=⟨rfl,rfl,rfl,by show w.heap.size<=(w.heap++os).size;rw[Array.size_append];omega,λ _ hj=>by show(w.heap++os)[_]? =_;rw[Array.getElem?_append_left hj]⟩
theorem rL(n:Int)(w:World)(g:Gl w)(h0: -9223372036854775808<=n)(h1:n<=9223372036854775807):
  Calls Tryz.prog 245 [i64 n].toArray w λ e w'=>e= .returned (str (Lib.itoa n))/\Ext w w':=
 (Tryz.strconv_Itoa n h0 h1 w g.pow).mono λ e w' ⟨he,k,os,hw⟩=>⟨he,hw▸Ext.trans (rJ (Ext.refl w) k) (rK _ os)⟩
theorem eP(s:A1)(v:Int)(w:World)(hs:len s<=9223372036854775806)(h:Lib.atoiAll s= .ok v):
  Calls Tryz.prog 120 [str s].toArray w λ e w'=>e= .returned (.tuple #[i64 v,.nilIface])/\Ext w w':=
 (Tryz.strconv_Atoi_ok ⟨⟨s⟩⟩ (by show s.length<=_;unfold len at hs;omega) v h w).mono λ e w' ⟨he,hw⟩=>⟨he,by
  rcases hw with hw|⟨t,hw⟩
  ·exact hw▸Ext.refl _
  ·exact hw▸Joins.below_bytesWorld _ _ _ _ (Nat.le_refl _)⟩
theorem rM(g:Nat)(p:Nat->Bool)(s:A1)(w:World)(hg:Gl w)(eg: ∀args w,(callFunc g args).run Tryz.prog w= .ok (.enter g args) w)(hs:len s<=9223372036854775807)
 (hp: ∀(x:Nat) (w:World),x<=1114111->Calls Tryz.prog g [.int .i32 x].toArray w λ e w'=>e= .returned (.bool (p x))/\w'=w):
 Calls Tryz.prog 210 [str s,.func (.func g) #[] #[]].toArray w λ e w'=>e= .returned (str (Lib.trimF p ⟨⟨s⟩⟩).data.toList)/\Ext w w':=
by
 have hq:PredAtRunes Tryz.prog g #[] p w:=by
  intro W x hx _
  show Calls Tryz.prog g (#[encR x]++ #[]) W _
  exact(hp x W hx).mono λ e w' ⟨he,hw⟩=>⟨he,0,hw⟩
 refine(Tryz.strings_TrimFunc_runes g #[] eg p ⟨⟨s⟩⟩ w (by show s.length<=_;unfold len at hs;omega) hg.u8 hq).mono λ e w' ⟨he,hw⟩=>⟨?_,hw⟩
 rw[he]
theorem rN{cut:A1}(h: ∀b∈cut,b.toNat<128): ∀(j:Nat) (b:UInt8),cut[j]? =some b->b.toNat<128:=λ _ b hb=>h b (List.mem_of_getElem? hb)
theorem rO(M:Mem)(s:A1)(w:World)(hM:Sat w M)(hg:Gl w)(hs:len s<4294967281)(ha: ∀(j:Nat) (b:UInt8),s[j]? =some b->b.toNat<128)(hn:(Lib.fields s).length<=maxLen):
  Calls Tryz.prog 115 [str s].toArray w λ e w'=> ∃v M',e= .returned v/\Sl M' 1 (Lib.fields s).length v ((Lib.fields s).flatMap B9)/\Grow w M w' M':=by
 refine(Tryz.strings_Fields ⟨⟨s⟩⟩ w (by show s.length<_;unfold len at hs;omega) ha hg.space).mono λ e w' ⟨he,hw⟩=>?_
 have hf:(Lib.fields s).map (λ l=>Value.string ⟨l.toArray⟩)=(Lib.fields s).flatMap B9:=by
  induction Lib.fields s with
  |nil=>rfl
  |cons a b ih=>rw[List.map_cons,ih];rfl
 have hN:=(St.start hM).newRow 9 1 (Lib.fields s).length ((Lib.fields s).flatMap B9) (by rw[E5 B9 1 DO]) hn
 refine⟨_,_,he,hN.1.sl (i:=0) U,?_⟩
 rw[hw]
 show Grow w M (w.alloc (.cells (((Lib.fields s)).map λ l=>Value.string ⟨l.toArray⟩).toArray 9)) _
 rw[hf];exact hN.1.done
end Go.Proofs.YtmjpjbmeamnfpaaGreatDoor
namespace Go.Proofs.YtmjpjbmeamnfpaaGreatDoor
open Go.ChangeShapes Go.WideShapes Go.ChangeAt Go.RowKit Go.Eng
theorem own:ownKnob Tryz.prog.godebug=none:=by kernel_rfl
abbrev Laid:List (String×DataW Unit):=[("math/bits.deBruijn32tab",Rows.laid_math_bits_deBruijn32tab),("math/bits.deBruijn64tab",Rows.laid_math_bits_deBruijn64tab),("internal/strconv.uint64pow10",Rows.laid_internal_strconv_uint64pow10),("unicode/utf8.acceptRanges",Rows.laid_unicode_utf8_acceptRanges),("strconv.ErrRange",Rows.laid_strconv_ErrRange),("strconv.ErrSyntax",Rows.laid_strconv_ErrSyntax),("unicode.White_Space",Rows.laid_unicode_White_Space),("strings.asciiSpace",Rows.laid_strings_asciiSpace),("unicode/utf8.first",Rows.laid_unicode_utf8_first)]
theorem Y3{P:Program}{W:World}{name:String}{k:IntKind}{zs:List Int}{g:Nat}{t e:TypeId}{n:Nat}
  (hg:P.globalNamed name=some g) (hty:(P.globals[g]?).map (·.type)=some t) (ht:P.underlying t=some (.array n e)) (he:P.underlying e=some (.int k)) (hce:P.cellsOf e=1) (hct:P.cellsOf t=n)
  (h:Lib.VarReads P W name (Lib.tabData k zs)):Lib.TabIs P W name k zs:=by
 obtain⟨g',t',cs,fuel,p,hg',ht',hvar,hd⟩:=h
 obtain rfl:=Option.some.inj (hg.symm.trans hg')
 obtain rfl:=Option.some.inj (hty.symm.trans ht')
 unfold Lib.TabIs
 rw[hvar,<-Lib.cells_of_tab ht he hce hct hd]
theorem eQ{P:Program}{W:World}{name:String}{k:IntKind}{zs:List Int}{g:Nat}(h:Lib.TabIs P W name k zs)(hg:P.globalNamed name=some g)(h0:0<zs.length):g<W.heap.size:=lt_of_cell (h.cell hg 0 h0)
theorem rP:U8Extra Tryz.prog Tryz.dC:=⟨by kernel_rfl,by kernel_rfl,by kernel_rfl,by kernel_rfl,by kernel_rfl,by kernel_rfl,by kernel_rfl⟩
theorem e1:(Rows.laid_strings_asciiSpace:DataW Unit)=Lib.tabData .u8 Lib.asciiSpaceTab:=by kernel_rfl
theorem e2:(Rows.laid_internal_strconv_uint64pow10:DataW Unit)=Lib.tabData .u64 Lib.pow10Tab:=by kernel_rfl
theorem e3:(Rows.laid_unicode_utf8_first:DataW Unit)=Lib.firstData:=by kernel_rfl
theorem e4:(Rows.laid_unicode_utf8_acceptRanges:DataW Unit)=Lib.acceptData:=by kernel_rfl
abbrev eR:List Int:=Lib.deBruijn64tab.map (λ n:Nat=>(n:Int))
theorem e5:(Rows.laid_math_bits_deBruijn64tab:DataW Unit)=Lib.tabData .u8 eR:=by kernel_rfl
theorem eS:"*"++"errors.errorString"="*errors.errorString":=by decide
theorem rQ(u:TypeId)(h:Tryz.prog.typeName? 3 u=some "*errors.errorString"):u=305:=
 typeName_ptr_named (nm:="errors.errorString") (by rw[eS];kernel_rfl) (by kernel_rfl) (by decide) u (by rw[eS];exact h)
theorem rR{W:World}(h:laidMet Tryz.prog Laid W):Gl W:=by
 have r1:=Lib.laidMet.reads h (show("strings.asciiSpace",Rows.laid_strings_asciiSpace)∈Laid from .tail _ (.tail _ (.tail _ (.tail _ (.tail _ (.tail _ (.tail _ (.head _))))))))
 have r2:=Lib.laidMet.reads h (show("internal/strconv.uint64pow10",Rows.laid_internal_strconv_uint64pow10)∈Laid from .tail _ (.tail _ (.head _)))
 have r3:=Lib.laidMet.reads h (show("unicode/utf8.first",Rows.laid_unicode_utf8_first)∈Laid from .tail _ (.tail _ (.tail _ (.tail _ (.tail _ (.tail _ (.tail _ (.tail _ (.head _)))))))))
 have r4:=Lib.laidMet.reads h (show("unicode/utf8.acceptRanges",Rows.laid_unicode_utf8_acceptRanges)∈Laid from .tail _ (.tail _ (.tail _ (.head _))))
 rw[e1]at r1
 rw[e2]at r2
 rw[e3]at r3
 rw[e4]at r4
 have h1:Lib.TabIs Tryz.prog W "strings.asciiSpace" .u8 Lib.asciiSpaceTab:=
  Y3 (g:=0) (by kernel_rfl) (by kernel_rfl) Tryz.underlying203 Tryz.underlying5 (by kernel_rfl) (by kernel_rfl) r1
 have h2:Lib.TabIs Tryz.prog W "internal/strconv.uint64pow10" .u64 Lib.pow10Tab:=
  Y3 (g:=7) (by kernel_rfl) (by kernel_rfl) Tryz.underlying330 Tryz.underlying230 (by kernel_rfl) (by kernel_rfl) r2
 have h3:Lib.Utf8Tabs 1 2 W:=utf8Tabs_of_readsT (.of260 Tryz.pG) rP r3 r4
 refine⟨⟨eQ h1 (by kernel_rfl) (of_decide_eq_true (by kernel_rfl)),eQ h2 (by kernel_rfl) (of_decide_eq_true (by kernel_rfl))⟩,h3,h1,h2,?_,?_⟩
 ·have r5:=Lib.laidMet.reads h (show("math/bits.deBruijn64tab",Rows.laid_math_bits_deBruijn64tab)∈Laid from .tail _ (.head _))
  rw[e5]at r5
  have h5:Lib.TabIs Tryz.prog W "math/bits.deBruijn64tab" .u8 eR:=Y3 (g:=9) (by kernel_rfl) (by kernel_rfl) Tryz.underlying340 Tryz.underlying5 (by kernel_rfl) (by kernel_rfl) r5
  exact h5.cell (by kernel_rfl) 15 (of_decide_eq_true (by kernel_rfl))
 ·obtain⟨a,s,hv,_⟩:=laid_sentinel (te:=307) (ts:=9) (f:=(Tryz.prog.fieldsOf 307)[0]!) h.tail.tail.tail.tail.tail (show Tryz.prog.globalNamed "strconv.ErrSyntax"=some 5 by kernel_rfl) (by kernel_rfl) Tryz.underlying166 rQ Tryz.underlying305 (by kernel_rfl) (by kernel_rfl) (by kernel_rfl) Tryz.underlying9 (by kernel_rfl) (by kernel_rfl)
  exact⟨_,var?_cell (by kernel_rfl) hv 0,.inr ⟨_,_,rfl⟩⟩
def lits(l:List (DataW Unit)):List Value:=l.filterMap λ | .lit (.int k z)=>some (.int k z)|_=>none
def partsOf:DataW Unit->List (DataW Unit)| .agg ps=>ps|_=>[]
def RI(d:DataW Unit):Array Value:=(lits (partsOf d)).toArray
def eT(l:List (DataW Unit)):Array Value:=(l.flatMap λ p=>lits (partsOf p)).toArray
def rS:List (DataW Unit):=match Rows.laid_unicode_White_Space with| .ptr (.agg (.slice rows _::_))=>rows|_=>[]
def eU:DataW Unit->A1| .iface _ (.ptr (.agg [.lit (.string s)]))=>s|_=>[]
noncomputable def Y4 (os:Os):World:=
 let N:=(World.settled Tryz.prog os).heap.size
 let w0:=World.holding Tryz.prog os ⟨#[.cells (eT rS) 280,.cells #[.slice (some ⟨N,0,none⟩) 7 7,.slice none 0 0,.int .i64 2] 277,.cells #[str (eU Rows.laid_strconv_ErrRange)] 307,.cells #[str (eU Rows.laid_strconv_ErrSyntax)] 307],#[],[]⟩
 let put (h:Array Obj) (g:Nat) (cs:Array Value):Array Obj:=h.modify g λ
  | .cells _ t frozen=>.cells cs t frozen
  |o=>o
 let h1:=put w0.heap 8 (RI Rows.laid_math_bits_deBruijn32tab)
 let h2:=put h1 9 (RI Rows.laid_math_bits_deBruijn64tab)
 let h3:=put h2 7 (RI Rows.laid_internal_strconv_uint64pow10)
 let h4:=put h3 2 (eT (partsOf Rows.laid_unicode_utf8_acceptRanges))
 let h5:=put h4 6 #[.iface 305 (.pointer (some ⟨N+2,0,none⟩))]
 let h6:=put h5 5 #[.iface 305 (.pointer (some ⟨N+3,0,none⟩))]
 let h7:=put h6 3 #[.pointer (some ⟨N+1,0,none⟩)]
 let h8:=put h7 0 (RI Rows.laid_strings_asciiSpace)
 let h9:=put h8 1 (RI Rows.laid_unicode_utf8_first)
 { w0 with heap:=h9}
noncomputable abbrev N0:Nat:=(World.settled Tryz.prog default).heap.size
set_option maxRecDepth 100000 in
theorem rT(os:Os)(args:Array Value):laidMet Tryz.prog Laid ((Y4 os).forCall (λ _ _=>0) ⟨#[],args,[]⟩).memory:=
 (LaidIn.of_run [8,9,7,2,6,N0+2,5,N0+3,3,N0+1,N0,0,1] 12 (by kernel_rfl) (by kernel_rfl) (by kernel_rfl) (by kernel_rfl)).met
end Go.Proofs.YtmjpjbmeamnfpaaGreatDoor
