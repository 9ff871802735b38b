/-
  Parts R6 Ra Rb, put together and made short by wip/py/merge.py (mini.py).
-/
import Derived.Test.YtmjpjbmeamnfpaaGreatDoorZc4
import Derived.Laws.BitsLemmas
import Derived.Test.YtmjpjbmeamnfpaaGreatDoorZc3
import Derived.Test.YtmjpjbmeamnfpaaGreatDoorProg
import Derived.Test.YtmjpjbmeamnfpaaGreatDoorZc25
import Derived.Test.YtmjpjbmeamnfpaaGreatDoorZc22
import Derived.Test.YtmjpjbmeamnfpaaGreatDoorZc24
import Derived.Test.YtmjpjbmeamnfpaaGreatDoorZc5
import Derived.Test.YtmjpjbmeamnfpaaGreatDoorZc0
set_option linter.unusedVariables false
set_option linter.unusedSimpArgs false
set_option maxRecDepth 100000
namespace Go.Proofs.YtmjpjbmeamnfpaaGreatDoor
open Go.Eng
theorem lP(s:A1)(i:Int)(w:World)(h0:0<=i)(h1:i<=len s)(hb:len s<=1099511627776):
  Calls Tryz.prog 278 [(str s),(i64 i)].toArray w λ e w'=>e= .returned (i64 (BB (A4 s i)))/\w'=w:=by
 refine CW.BN Tryz.func278 U Tryz.ntmps278 (Nat.le_of_ble_eq_true U) λ Q hE=>?_
 have:=AA s
 refine CW.weaken [0,1] (L':=[Y 0 (str s),Y 1 (i64 i)]) ?_ U
 refine CW.sr (RL.u (.assign .c) U (RL.nil (CW.id (CW.seq ?_))))
 refine CW.sr (RL.m U U (RL.u (.add (.t U) .c (λ _=>by first|omega|(unfold C1 at*;omega))) U (RL.m U U (RL.u (.BZ (.t U) Tryz.underlying9) U (RL.u (.gtr (.t U) (.t U)) U (RL.m U U (RL.v (.neg U U) (.move (.t U)) U (RL.v (.neg U U) (.move (.t U)) U (RL.v (.neg U U) (.C4 (.g U (λ h=>h)) (.g U (λ h=>h)) Tryz.underlying9 (λ hW=>by simp only[zb]at hW;first|omega|(unfold C1 at*;omega))) U (RL.v (.neg U U) (.neq (.g U (λ h=>h)) .c) U (RL.u (.or (.t U) (.g U (λ h=>h))) U (RL.m U U (RL.v (.neg U U) (.move (.t U)) U (RL.v (.neg U U) (.move (.t U)) U (RL.v (.neg U U) (.add (.g U (λ h=>h)) .c (λ hW=>by simp only[zb]at hW;first|omega|(unfold C1 at*;omega))) U (RL.v (.neg U U) (.C4 (.g U (λ h=>h)) (.g U (λ h=>h)) Tryz.underlying9 (λ hW=>by simp only[zb]at hW;first|omega|(unfold C1 at*;omega))) U (RL.v (.neg U U) (.neq (.g U (λ h=>h)) .c) U (RL.u (.or (.t U) (.g U (λ h=>h))) U (RL.nil (CW.id ?_))))))))))))))))))))
 refine CW.cond rfl ?_ ?_<;>intro hb1<;>try simp only[zb]at hb1
 ·refine CW.sr (RL.u (.assign .c) U (RL.nil (CW.id (CW.ret (hE.r1 U U ?_)))))
  exact⟨by rw[j1 h0 (by omega)],rfl⟩
 ·have hn1:i+6<=len s/\A3 s i=92/\A3 s (i+1)=117:=by omega
  have hne:=(QL (s:=s) (i:=i+2) (j:=i+2) (by omega) (Int.le_refl _) (by omega)).2 U
  refine CW.skip (CW.id (CW.sr (RL.u (.assign .c) U (RL.nil (CW.id ?_)))))
  refine CW.seq (CW.sr (RL.m U U (RL.u (.add (.t U) .c (λ _=>by first|omega|(unfold C1 at*;omega))) U (RL.a U U (RL.nil (CW.id ?_))))))
  refine CW.block ?_
  refine CW.loop (σ:=Int×Int) (λ(n,k)=>[Y 0 (str s),Y 1 (i64 i),Y 5 (i64 n),Y 6 (i64 k)]) (λ(n,k) wl=>w=wl/\i+2<=k/\k<=i+6/\ER (Eng.sub s (i+2) k)=true/\n=F9 (Eng.sub s (i+2) k)) (λ(n,k)=>(i+6-k).toNat) ((0,i+2)) [0,1,5,6] U ?_ ?_
  ·exact⟨rfl,by omega,by omega,by rw[hne];rfl,by rw[hne];rfl⟩
  ·rintro⟨n,k⟩ wl ⟨rfl,hk0,hk1,hok,hn⟩
   have hby:=L4 s k
   have hsl:=EV (s:=s) (i:=i+2) (j:=k) (by omega) hk0 (by omega)
   have hnb:=vY hok (by omega)
   rw[<-hn]at hnb
   refine CW.seq (CW.sr (RL.m U U (RL.m U U (RL.u (.add (.t U) .c (λ _=>by first|omega|(unfold C1 at*;omega))) U (RL.u (.lss (.t U) (.t U)) U (RL.nil (CW.id ?_)))))))
   refine CW.cond rfl ?_ ?_<;>intro hb2<;>try simp only[zb]at hb2
   ·refine CW.skip (CW.id (CW.seq (CW.block (CW.sr ?_))))
    refine RL.m U U (RL.m U U (RL.u (.C4 (.t U) (.t U) Tryz.underlying9 (λ _=>by first|omega|(unfold C1 at*;omega))) U (RL.u (.BH (r:=A3 s k) (.t U) Tryz.underlying5 Tryz.underlying3 (λ _=>by exact Eng.wrap_i64 (by omega))) U (RL.a U U (RL.nil (CW.id ?_))))))
    refine CW.block (CW.sr (RL.m U U (RL.u (.geq (.t U) .c) U (RL.m U U (RL.v (.pos U U) (.move (.t U)) U (RL.v (.pos U U) (.leq (.g U (λ h=>h)) .c) U (RL.u (.and (.t U) (.g U (λ h=>h))) U (RL.a U U (RL.nil (CW.id ?_))))))))))
    refine CW.cond rfl ?_ ?_<;>intro hb3<;>try simp only[zb]at hb3
    ·refine CW.region (RL.m U U (RL.u (.mul (.t U) .c (λ _=>by first|omega|(unfold C1 at*;omega))) U (RL.m U U (RL.u (.add (.t U) (.t U) (λ _=>by first|omega|(unfold C1 at*;omega))) U (RL.u (.sub (.t U) .c (λ _=>by first|omega|(unfold C1 at*;omega))) U (RL.a U U (RL.nil (CW.id ?_))))))))
     refine CW.region (RL.m U U (RL.u (.add (.t U) .c (λ _=>by first|omega|(unfold C1 at*;omega))) U (RL.a U U ?_)))
     refine RL.nil λ a hs=>Exists.intro ((((n*16)+(A3 s k))-48,k+1)) ⟨hs.BG [0,1,5,6],?_,?_⟩
     ·have hx:C1 (A3 s k)=A3 s k-48:=by unfold C1;(repeat' split)<;>omega
      have hst:=SZ (s:=s) (i:=i+2) (k:=k) (by omega) hk0 (by omega) hok (by rw[hx];omega)
      exact⟨rfl,by omega,by omega,hst.1,by rw[hst.2,hx,<-hn];omega⟩
     ·show Int.toNat _<Int.toNat _;omega
    ·refine CW.sr (RL.m U U (RL.u (.geq (.t U) .c) U (RL.m U U (RL.v (.pos U U) (.move (.t U)) U (RL.v (.pos U U) (.leq (.g U (λ h=>h)) .c) U (RL.u (.and (.t U) (.g U (λ h=>h))) U (RL.a U U (RL.nil (CW.id ?_)))))))))
     refine CW.cond rfl ?_ ?_<;>intro hb4<;>try simp only[zb]at hb4
     ·refine CW.region (RL.m U U (RL.u (.mul (.t U) .c (λ _=>by first|omega|(unfold C1 at*;omega))) U (RL.m U U (RL.u (.add (.t U) (.t U) (λ _=>by first|omega|(unfold C1 at*;omega))) U (RL.u (.sub (.t U) .c (λ _=>by first|omega|(unfold C1 at*;omega))) U (RL.u (.add (.t U) .c (λ _=>by first|omega|(unfold C1 at*;omega))) U (RL.a U U (RL.nil (CW.id ?_)))))))))
      refine CW.region (RL.m U U (RL.u (.add (.t U) .c (λ _=>by first|omega|(unfold C1 at*;omega))) U (RL.a U U ?_)))
      refine RL.nil λ a hs=>Exists.intro (((((n*16)+(A3 s k))-97)+10,k+1)) ⟨hs.BG [0,1,5,6],?_,?_⟩
      ·have hx:C1 (A3 s k)=A3 s k-87:=by unfold C1;(repeat' split)<;>omega
       have hst:=SZ (s:=s) (i:=i+2) (k:=k) (by omega) hk0 (by omega) hok (by rw[hx];omega)
       exact⟨rfl,by omega,by omega,hst.1,by rw[hst.2,hx,<-hn];omega⟩
      ·show Int.toNat _<Int.toNat _;omega
     ·refine CW.sr (RL.m U U (RL.u (.geq (.t U) .c) U (RL.m U U (RL.v (.pos U U) (.move (.t U)) U (RL.v (.pos U U) (.leq (.g U (λ h=>h)) .c) U (RL.u (.and (.t U) (.g U (λ h=>h))) U (RL.a U U (RL.nil (CW.id ?_)))))))))
      refine CW.cond rfl ?_ ?_<;>intro hb5<;>try simp only[zb]at hb5
      ·refine CW.region (RL.m U U (RL.u (.mul (.t U) .c (λ _=>by first|omega|(unfold C1 at*;omega))) U (RL.m U U (RL.u (.add (.t U) (.t U) (λ _=>by first|omega|(unfold C1 at*;omega))) U (RL.u (.sub (.t U) .c (λ _=>by first|omega|(unfold C1 at*;omega))) U (RL.u (.add (.t U) .c (λ _=>by first|omega|(unfold C1 at*;omega))) U (RL.a U U (RL.nil (CW.id ?_)))))))))
       refine CW.region (RL.m U U (RL.u (.add (.t U) .c (λ _=>by first|omega|(unfold C1 at*;omega))) U (RL.a U U ?_)))
       refine RL.nil λ a hs=>Exists.intro (((((n*16)+(A3 s k))-65)+10,k+1)) ⟨hs.BG [0,1,5,6],?_,?_⟩
       ·have hx:C1 (A3 s k)=A3 s k-55:=by unfold C1;(repeat' split)<;>omega
        have hst:=SZ (s:=s) (i:=i+2) (k:=k) (by omega) hk0 (by omega) hok (by rw[hx];omega)
        exact⟨rfl,by omega,by omega,hst.1,by rw[hst.2,hx,<-hn];omega⟩
       ·show Int.toNat _<Int.toNat _;omega
      ·refine CW.sr (RL.u (.assign .c) U (RL.nil (CW.id (CW.ret (hE.r1 U U ?_)))))
       have hx:C1 (A3 s k)<0:=by unfold C1;(repeat' split)<;>omega
       exact⟨by rw[VR h0 hn1.1 hn1.2.1 hn1.2.2,a7 (s:=s) (i:=i+2) (k:=k) (j:=i+6) (by omega) hk0 (by omega) hn1.1 hx];rfl,rfl⟩
   ·refine CW.exit (CW.at [Y 5 (i64 n)] U ?_)
    refine CW.sr (RL.m U U (RL.a U U (RL.nil (CW.id (CW.ret (hE.r1 U U ?_))))))
    have hk:k=i+6:=by omega
    subst hk
    exact⟨by rw[VR h0 hn1.1 hn1.2.1 hn1.2.2,if_pos hok,hn],rfl⟩
theorem AA7(s:A1)(i:Int)(w:World)(h0:0<=i)(h1:i<len s)(hb:len s<=1099511627776):
  Calls Tryz.prog 253 [(str s),(i64 i)].toArray w λ e w'=>e= .returned (.tuple #[(str ((H4 (B2 (A4 s i))).1)),(i64 ((H4 (B2 (A4 s i))).2))])/\Ext w w':=by
 refine CW.BN Tryz.func253 U Tryz.ntmps253 (Nat.le_of_ble_eq_true U) λ Q hE=>?_
 have:=AA s
 have hl:=DV s i h0 (by omega)
 have hb1':=NP s i 1 h0 (by omega)
 have hu:=NO (A4 s i)
 have hu2:=NO (A4 s (i+6))
 have hff:=KH s i 6 h0 (by omega)
 have h8:len ([34,92,47,98,102,110,114,116]:A1)=8:=rfl
 have h82:len ([34,92,47,8,12,10,13,9]:A1)=8:=rfl
 have hS:St w nM w nM []:=St.start ⟨λ _ _ _ h=>by cases h⟩
 refine CW.weaken [0,1] (L':=[Y 0 (str s),Y 1 (i64 i)]) ?_ U
 refine CW.sr (RL.u (.assign .c) U (RL.u (.assign .c) U (RL.nil (CW.id (CW.seq ?_)))))
 refine CW.sr (RL.m U U (RL.u (.add (.t U) .c (λ _=>by omega)) U (RL.m U U (RL.u (.BZ (.t U) Tryz.underlying9) U (RL.u (.geq (.t U) (.t U)) U (RL.nil (CW.id ?_)))))))
 refine CW.cond rfl ?_ ?_<;>intro hb1<;>try simp only[zb]at hb1
 ·refine CW.sr (RL.u (.assign .c) U (RL.u (.assign .c) U (RL.nil (CW.id (CW.ret (hE.r2 U U U ?_))))))
  clear hE
  have hE:B2 (A4 s i)=(0,0):=by
   unfold B2
   try rw[hff]
   rw[if_pos (by first|assumption|omega|(simp_all;done)|grind)]
   try (first|rfl|(congr 1;omega))
  have hq:H4 (B2 (A4 s i))=([],0):=by rw[hE];rfl
  rw[hq];exact⟨rfl,hS.low⟩
 ·refine CW.skip (CW.id (CW.sr (RL.u (.assign .c) U (RL.nil (CW.id ?_)))))
  refine CW.sr (RL.u (.assign .c) U (RL.nil (CW.id (CW.seq ?_))))
  refine CW.sr (RL.u (.assign .c) U (RL.nil (CW.id (CW.block ?_))))
  refine CW.loop (σ:=Int) (λ k=>[Y 0 (str s),Y 1 (i64 i),Y 6 (str [34,92,47,98,102,110,114,116]),Y 7 (str [34,92,47,8,12,10,13,9]),Y 8 (i64 k)]) (λ k wl=>St w nM wl nM []/\0<=k/\k<=8/\QM (A3 s (i+1)) k) (λ k=>(8-k).toNat) 0 [0,1,6,7,8] U ?_ ?_
  ·refine⟨hS,?_⟩;exact⟨by omega,by omega,λ j h2 h3=>by omega⟩
  ·rintro k wl ⟨hS1,hk0,hk1,hN⟩
   refine CW.seq (CW.sr (RL.m U U (RL.m U U (RL.u (.BZ (.t U) Tryz.underlying9) U (RL.u (.lss (.t U) (.t U)) U (RL.nil (CW.id ?_)))))))
   refine CW.cond rfl ?_ ?_<;>intro hb2<;>try simp only[zb]at hb2
   ·refine CW.skip (CW.id (CW.seq (CW.block (CW.seq ?_))))
    refine CW.OH hS1 MK (by decide+kernel) ?_
    refine RQ.v .none (.move (.t U)) U ?_
    refine RQ.v .none (.move (.t U)) U ?_
    refine RQ.v .none (.add (.t U) .c (λ _=>by omega)) U ?_
    refine RQ.v .none (.C4 (.t U) (.t U) Tryz.underlying9 (λ _=>by omega)) U ?_
    refine RQ.v .none (.move (.t U)) U ?_
    refine RQ.v .none (.move (.t U)) U ?_
    refine RQ.v .none (.C4 (.t U) (.t U) Tryz.underlying9 (λ _=>by omega)) U ?_
    refine RQ.v .none (.eql (.t U) (.t U)) U ?_
    refine RQ.nil (λ a hs w2 hS3=>CW.at [Y 0 (str s),Y 1 (i64 i),Y 6 (str [34,92,47,98,102,110,114,116]),Y 7 (str [34,92,47,8,12,10,13,9]),Y 8 (i64 k),Y 29 (.bool ((A3 s (i+1))==(A3 [34,92,47,98,102,110,114,116] k)))] U ?_ a hs)
    refine CW.cond rfl ?_ ?_<;>intro hb3<;>try simp only[zb]at hb3
    ·refine CW.sr (RL.m U U (RL.m U U (RL.m U U (RL.u (.add (.t U) .c (λ _=>by omega)) U (RL.u (.K7 (.t U) (.t U) (.t U) Tryz.underlying9 (λ _=>by omega)) U (RL.a U U (RL.u (.assign .c) U (RL.nil (CW.id ?_)))))))))
     refine CW.ret (hE.r2 U U U ?_)
     have he:=vW (c:=A3 s (i+1)) hk0 (by omega) hb3
     have hq:H4 (B2 (A4 s i))=(Eng.sub iZ k (k+1),2):=by rw[vX (by omega) (by rw[hb1'];exact he.1),hb1',he.2]
     rw[hq];exact⟨rfl,hS3.low⟩
    ·refine CW.skip (CW.id ?_)
     refine CW.region (RL.m U U (RL.u (.add (.t U) .c (λ _=>by omega)) U (RL.a U U ?_)))
     refine RL.nil λ a hs=>Exists.intro (k+1) ⟨hs.BG [0,1,6,7,8],?_,?_⟩
     ·refine⟨hS3,?_⟩
      exact⟨by omega,by omega,hN.step hb3⟩
     ·show Int.toNat _<Int.toNat _;omega
   ·have hsh:HI (A3 (A4 s i) 1)=false:=by rw[hb1'];exact hN.ZZ (by omega)
    refine CW.exit (CW.at [Y 0 (str s),Y 1 (i64 i)] U ?_)
    refine CW.sr (RL.m U U (RL.m U U ?_))
    refine RL.DC .none Tryz.call278 (.cons (.t U) (.cons (.t U) .nil)) (λ _=>(lP s i _ (by omega) (by omega) (by omega))) U ?_
    refine RL.a U U ?_
    refine RL.nil (CW.at [Y 0 (str s),Y 1 (i64 i),Y 9 (i64 (BB (A4 s i)))] U (CW.seq (CW.sr (RL.m U U (RL.u (.lss (.t U) .c) U (RL.m U U (RL.v (.neg U U) (.move (.t U)) U (RL.v (.neg U U) (.geq (.g U (λ h=>h)) .c) U (RL.v (.neg U U) (.move (.g U (λ h=>h))) U ?_)))))))))
    refine RL.v (.E4 U U) (.move (.t U)) U (RL.v (.E4 U U) (.lss (.g U (λ h=>h)) .c) U (RL.v (.neg U U) (.and (.g U (λ h=>h)) (.g U (λ h=>h))) U (RL.u (.or (.t U) (.g U (λ h=>h))) U (RL.nil (CW.id ?_)))))
    refine CW.cond rfl ?_ ?_<;>intro hb4<;>try simp only[zb]at hb4
    ·refine CW.sr (RL.u (.assign .c) U (RL.u (.assign .c) U (RL.nil (CW.id (CW.ret (hE.r2 U U U ?_))))))
     clear hE
     have hE:B2 (A4 s i)=(0,0):=by
      unfold B2
      try rw[hff]
      rw[if_neg (by first|assumption|omega|(simp_all;done)|grind),if_neg (by rw[hsh];simp),if_pos (by first|assumption|omega|(simp_all;done)|grind)]
      try (first|rfl|(congr 1;omega))
     have hq:H4 (B2 (A4 s i))=([],0):=by rw[hE];rfl
     rw[hq];exact⟨rfl,hS1.low⟩
    ·refine CW.skip (CW.id (CW.seq (CW.sr (RL.m U U (RL.u (.lss (.t U) .c) U (RL.m U U (RL.v (.neg U U) (.move (.t U)) U (RL.v (.neg U U) (.geq (.g U (λ h=>h)) .c) U (RL.u (.or (.t U) (.g U (λ h=>h))) U (RL.nil (CW.id ?_)))))))))))
     refine CW.cond rfl ?_ ?_<;>intro hb5<;>try simp only[zb]at hb5
     ·refine CW.sr (RL.m U U ?_)
      refine RL.D5 hS1 .none Tryz.call279 (.cons (.t U) .nil) (λ _=>(lM (BB (A4 s i)) _ (by omega) (by omega))) U (λ w4 hS5=>?_)
      refine RL.a U U (RL.u (.assign .c) U ?_)
      refine RL.nil (CW.at [Y 4 (str (toStr (Lib.encodeRuneZ (BB (A4 s i))))),Y 5 (i64 6)] U (CW.ret (hE.r2 U U U ?_)))
      clear hE
      have hE:B2 (A4 s i)=(BB (A4 s i),6):=by
       unfold B2
       try rw[hff]
       rw[if_neg (by first|assumption|omega|(simp_all;done)|grind),if_neg (by rw[hsh];simp),if_neg (by first|assumption|omega|(simp_all;done)|grind),if_pos (by first|assumption|omega|(simp_all;done)|grind)]
       try (first|rfl|(congr 1;omega))
      have hq:H4 (B2 (A4 s i))=(toStr (Lib.encodeRuneZ (BB (A4 s i))),6):=by rw[hE];rfl
      rw[hq];exact⟨rfl,hS5.low⟩
     ·refine CW.skip (CW.id (CW.sr (RL.m U U (RL.m U U (RL.u (.add (.t U) .c (λ _=>by omega)) U ?_)))))
      refine RL.DC .none Tryz.call278 (.cons (.t U) (.cons (.t U) .nil)) (λ _=>(lP s (i+6) _ (by omega) (by omega) (by omega))) U ?_
      refine RL.a U U ?_
      refine RL.nil (CW.at [Y 9 (i64 (BB (A4 s i))),Y 10 (i64 (BB (A4 s (i+6))))] U (CW.seq (CW.sr (RL.m U U (RL.u (.lss (.t U) .c) U (RL.m U U (RL.v (.neg U U) (.move (.t U)) U (RL.v (.neg U U) (.geq (.g U (λ h=>h)) .c) U (RL.u (.or (.t U) (.g U (λ h=>h))) U (RL.nil (CW.id ?_)))))))))))
      refine CW.cond rfl ?_ ?_<;>intro hb6<;>try simp only[zb]at hb6
      ·refine CW.sr (RL.u (.assign .c) U (RL.u (.assign .c) U (RL.nil (CW.id (CW.ret (hE.r2 U U U ?_))))))
       clear hE
       have hE:B2 (A4 s i)=(0,0):=by
        unfold B2
        try rw[hff]
        rw[if_neg (by first|assumption|omega|(simp_all;done)|grind),if_neg (by rw[hsh];simp),if_neg (by first|assumption|omega|(simp_all;done)|grind),if_neg (by first|assumption|omega|(simp_all;done)|grind),if_pos (by first|assumption|omega|(simp_all;done)|grind)]
        try (first|rfl|(congr 1;omega))
       have hq:H4 (B2 (A4 s i))=([],0):=by rw[hE];rfl
       rw[hq];exact⟨rfl,hS1.low⟩
      ·refine CW.skip (CW.id (CW.sr (RL.m U U (RL.u (.sub (.t U) .c (λ _=>by omega)) U (RL.u (.mul .c (.t U) (λ _=>by omega)) U (RL.u (.add .c (.t U) (λ _=>by omega)) U (RL.m U U (RL.u (.add (.t U) (.t U) (λ _=>by omega)) U (RL.u (.sub (.t U) .c (λ _=>by omega)) U ?_)))))))))
       refine RL.D5 hS1 .none Tryz.call279 (.cons (.t U) .nil) (λ _=>(lM (((65536+(1024*((BB (A4 s i))-55296)))+(BB (A4 s (i+6))))-56320) _ (by omega) (by omega))) U (λ w6 hS7=>?_)
       refine RL.a U U (RL.u (.assign .c) U ?_)
       refine RL.nil (CW.at [Y 4 (str (toStr (Lib.encodeRuneZ (((65536+(1024*((BB (A4 s i))-55296)))+(BB (A4 s (i+6))))-56320)))),Y 5 (i64 12)] U (CW.ret (hE.r2 U U U ?_)))
       clear hE
       have hE:B2 (A4 s i)=(65536+1024*(BB (A4 s i)-55296)+BB (A4 s (i+6))-56320,12):=by
        unfold B2
        try rw[hff]
        rw[if_neg (by first|assumption|omega|(simp_all;done)|grind),if_neg (by rw[hsh];simp),if_neg (by first|assumption|omega|(simp_all;done)|grind),if_neg (by first|assumption|omega|(simp_all;done)|grind),if_neg (by first|assumption|omega|(simp_all;done)|grind)]
        try (first|rfl|(congr 1;omega))
       have hq:H4 (B2 (A4 s i))=(toStr (Lib.encodeRuneZ (((65536+(1024*((BB (A4 s i))-55296)))+(BB (A4 s (i+6))))-56320)),12):=by rw[hE];rfl
       rw[hq];exact⟨rfl,hS7.low⟩
theorem AA8(s:A1)(i:Int)(w:World)(h0:0<=i)(h1:i<len s)(hb:len s<=1099511627776):
  Calls Tryz.prog 222 [(str s),(i64 i)].toArray w λ e w'=>e= .returned (.tuple #[(str ((F6 s i).1)),(i64 ((F6 s i).2))])/\Ext w w':=by
 refine CW.BN Tryz.func222 U Tryz.ntmps222 (Nat.le_of_ble_eq_true U) λ Q hE=>?_
 have:=AA s
 have hr:=L8 s i
 have hr2:=rune_le s i h1
 have hS:St w nM w nM []:=St.start ⟨λ _ _ _ h=>by cases h⟩
 refine CW.weaken [0,1] (L':=[Y 0 (str s),Y 1 (i64 i)]) ?_ U
 refine CW.sr (RL.u (.assign .c) U (RL.u (.assign .c) U (RL.nil (CW.id (CW.seq ?_)))))
 refine CW.sr (RL.m U U (RL.m U U (RL.u (.C4 (.t U) (.t U) Tryz.underlying9 (λ _=>by omega)) U (RL.u (.eql (.t U) .c) U (RL.nil (CW.id ?_))))))
 refine CW.cond rfl ?_ ?_<;>intro hb1<;>try simp only[zb]at hb1
 ·refine CW.sr (RL.m U U (RL.m U U ?_))
  refine RL.D5 hS .none Tryz.call253 (.cons (.t U) (.cons (.t U) .nil)) (λ _=>(AA7 s i _ (by omega) (by omega) (by omega))) U (λ w1 hS2=>?_)
  refine RL.u (.ex (.t U) U) U (RL.u (.ex (.t U) U) U (RL.a U U (RL.a U U ?_)))
  refine RL.nil (CW.at [Y 4 (str ((H4 (B2 (A4 s i))).1)),Y 5 (i64 ((H4 (B2 (A4 s i))).2))] U (CW.ret (hE.r2 U U U ?_)))
  have hq:F6 s i=H4 (B2 (A4 s i)):=by unfold F6;rw[if_pos hb1]
  rw[hq];exact⟨rfl,hS2.low⟩
 ·refine CW.skip (CW.id (CW.sr (RL.m U U (RL.m U U ?_))))
  refine RL.DC .none Tryz.call88 (.cons (.t U) (.cons (.t U) .nil)) (λ _=>(eM s i _ (by omega) (by omega) (by omega))) U ?_
  refine RL.a U U ?_
  refine RL.nil (CW.at [Y 0 (str s),Y 1 (i64 i),Y 6 (i64 (rune s i))] U (CW.sr (RL.m U U (RL.m U U (RL.m U U (RL.m U U (RL.u (.add (.t U) (.t U) (λ _=>by omega)) U (RL.u (.K7 (.t U) (.t U) (.t U) Tryz.underlying9 (λ _=>by omega)) U (RL.m U U (RL.a U U (RL.a U U (RL.nil (CW.id ?_)))))))))))))
  refine CW.ret (hE.r2 U U U ?_)
  have hq:F6 s i=(Eng.sub s i (i+rune s i),rune s i):=by unfold F6;rw[if_neg hb1]
  rw[hq];exact⟨rfl,hS.low⟩
theorem AA9(s:A1)(w:World)(hb:len s<=1099511627776):
  Calls Tryz.prog 172 [(str s)].toArray w λ e w'=>e= .returned (.tuple #[(str ((AS s).1)),(i64 ((AS s).2.1)),(i64 ((AS s).2.2))])/\Ext w w':=by
 refine CW.BN Tryz.func172 U Tryz.ntmps172 (Nat.le_of_ble_eq_true U) λ Q hE=>?_
 have:=AA s
 have hl0:= @HC _ s
 have hS:St w nM w nM []:=St.start ⟨λ _ _ _ h=>by cases h⟩
 refine CW.weaken [0] (L':=[Y 0 (str s)]) ?_ U
 refine CW.sr (RL.u (.assign .c) U (RL.u (.assign .c) U (RL.u (.assign .c) U (RL.nil (CW.id (CW.seq ?_))))))
 refine CW.sr (RL.m U U (RL.u (.NI (.t U) .c) U (RL.m U U (RL.v (.neg U U) (.move (.t U)) U (RL.v (.neg U U) (.C4 (.g U (λ h=>h)) .c Tryz.underlying9 (λ hW=>by simp only[zb]at hW;first|omega|(have:=hl0 (by simpa using hW);omega))) U (RL.v (.neg U U) (.neq (.g U (λ h=>h)) .c) U (RL.u (.or (.t U) (.g U (λ h=>h))) U (RL.nil (CW.id ?_)))))))))
 refine CW.cond rfl ?_ ?_<;>intro hb1<;>try simp only[zb]at hb1
 ·refine CW.sr (RL.u (.assign .c) U (RL.u (.assign .c) U (RL.u (.assign .c) U (RL.nil (CW.id (CW.ret (hE.r3 U U U U ?_)))))))
  have hq:AS s=([],0,1):=by unfold AS;rw[if_neg (by rw[LW];rintro⟨h1,h2⟩;rcases hb1 with h|h;exact h1 h;exact h h2)]
  rw[hq];exact⟨rfl,hS.low⟩
 ·refine CW.skip (CW.id (CW.sr (RL.u (.assign .c) U (RL.nil (CW.id ?_)))))
  refine CW.sr (RL.u (.assign .c) U (RL.nil (CW.id (CW.seq ?_))))
  refine CW.block ?_
  refine CW.loop (σ:=Nat×Int×A1) (λ(f,i,o)=>[Y 0 (str s),Y 5 (str o),Y 6 (i64 i)]) (λ(f,i,o) wl=>St w nM wl nM []/\1<=i/\i<=len s/\LV f s i o/\(len s-i).toNat<=f/\len o<=4*i) (λ(f,i,o)=>(len s-i).toNat) ((s.length,1,[])) [0,5,6] U ?_ ?_
  ·refine⟨hS,?_⟩;exact⟨Int.le_refl _,by have:=hl0 (by simp_all);omega,⟨[],rfl,by unfold AS;rw[if_pos (LW.2 (by simp_all))]⟩,by unfold len;omega,by decide⟩
  ·rintro⟨f,i,o⟩ wl ⟨hS1,h0,h1,hU,hf,hlen⟩
   have htb:=λ h=>vV (s:=s) (i:=i) (by omega) h
   have hlo:=AA o
   have hlt2:=AA (F6 s i).1
   refine CW.seq (CW.sr (RL.m U U (RL.m U U (RL.u (.BZ (.t U) Tryz.underlying9) U (RL.u (.lss (.t U) (.t U)) U (RL.nil (CW.id ?_)))))))
   refine CW.cond rfl ?_ ?_<;>intro hb2<;>try simp only[zb]at hb2
   ·refine CW.skip (CW.id (CW.block (CW.seq (CW.sr ?_))))
    refine RL.m U U (RL.m U U (RL.u (.C4 (.t U) (.t U) Tryz.underlying9 (λ _=>by first|omega|(have:=hl0 (by simpa using hW);omega))) U (RL.u (.eql (.t U) .c) U (RL.nil (CW.id ?_)))))
    refine CW.cond rfl ?_ ?_<;>intro hb3<;>try simp only[zb]at hb3
    ·refine CW.sr (RL.m U U (RL.m U U (RL.u (.add (.t U) .c (λ _=>by first|omega|(have:=hl0 (by simpa using hW);omega))) U (RL.a U U (RL.a U U (RL.u (.assign .c) U (RL.nil (CW.id (CW.ret (hE.r3 U U U U ?_))))))))))
     rw[hU.quote hf (by omega) hb2 hb3];exact⟨rfl,hS1.low⟩
    ·refine CW.skip (CW.id (CW.sr (RL.m U U (RL.m U U ?_))))
     refine RL.D5 hS1 .none Tryz.call222 (.cons (.t U) (.cons (.t U) .nil)) (λ _=>(AA8 s i _ (by omega) (by omega) (by omega))) U (λ w2 hS3=>?_)
     refine RL.m U U (RL.u (.ex (.t U) U) U (RL.u (.ex (.t U) U) U (RL.a U U (RL.a U U ?_))))
     refine RL.nil (CW.at [Y 0 (str s),Y 5 (str o),Y 6 (i64 i),Y 7 (str ((F6 s i).1)),Y 8 (i64 ((F6 s i).2))] U (CW.seq (CW.sr (RL.m U U (RL.u (.eql (.t U) .c) U (RL.m U U (RL.v (.neg U U) (.move (.t U)) U (RL.v (.neg U U) (.move (.t U)) U (RL.v (.neg U U) (.C4 (.g U (λ h=>h)) (.g U (λ h=>h)) Tryz.underlying9 (λ hW=>by simp only[zb]at hW;first|omega|(have:=hl0 (by simpa using hW);omega))) U ?_)))))))))
     refine RL.v (.neg U U) (.lss (.g U (λ h=>h)) .c) U (RL.u (.or (.t U) (.g U (λ h=>h))) U (RL.nil (CW.id ?_)))
     refine CW.cond rfl ?_ ?_<;>intro hb4<;>try simp only[zb]at hb4
     ·refine CW.sr (RL.m U U (RL.u (.assign .c) U (RL.a U U (RL.u (.assign .c) U (RL.nil (CW.id (CW.ret (hE.r3 U U U U ?_))))))))
      clear hE
      rw[hU.bad hf (by omega) hb2 hb3 (by simp_all)];exact⟨rfl,hS3.low⟩
     ·refine CW.skip (CW.id (CW.sr (RL.m U U (RL.m U U (RL.u (.EA (.t U) (.t U) (λ _=>by first|omega|(have:=hl0 (by simpa using hW);omega))) U (RL.a U U (RL.nil (CW.id ?_))))))))
      refine CW.region (RL.m U U (RL.m U U (RL.u (.add (.t U) (.t U) (λ _=>by first|omega|(have:=hl0 (by simpa using hW);omega))) U (RL.a U U ?_))))
      refine RL.nil λ a hs=>Exists.intro ((f-1,i+(F6 s i).2,o++(F6 s i).1)) ⟨hs.BG [0,5,6],?_,?_⟩
      ·refine⟨hS3,?_⟩
       have hst:=hU.step hf (by omega) hb2 hb3 (by simp_all)
       exact⟨by omega,by omega,hst,by omega,by rw[A5];omega⟩
      ·show Int.toNat _<Int.toNat _;omega
   ·refine CW.exit (CW.at [Y 0 (str s)] U ?_)
    refine CW.sr (RL.m U U (RL.u (.BZ (.t U) Tryz.underlying9) U (RL.u (.assign .c) U (RL.a U U (RL.u (.assign .c) U (RL.nil (CW.id (CW.ret (hE.r3 U U U U ?_)))))))))
    rw[hU.ZZ hb2];exact⟨rfl,hS1.low⟩
end Go.Proofs.YtmjpjbmeamnfpaaGreatDoor
set_option maxRecDepth 100000
namespace Go.Proofs.YtmjpjbmeamnfpaaGreatDoor
open Go.Eng
theorem QU{P:Program}{f:FuncId}{args:Array Value}{w:World}{u:Value}(h:Calls P f args w λ e w'=>e= .returned u/\w'=w):Calls P f args w λ e w'=>e= .returned u/\Ext w w':=h.mono λ e w' ⟨h1,h2⟩=>⟨h1,by rw[h2];exact .refl _⟩
theorem lQ(n:Int)(w:World)(h0:0<=n)(h1:n<=1099511627776):Calls Tryz.prog 28 [i64 n].toArray w λ e w'=>e= .returned (str (Lib.itoa n))/\Ext w w':=by
 have hil:=LA n
 refine B8 B3 Tryz.func28 U Tryz.ntmps28 [] [] [I n] U (H3 w) AF (λ B hB=>?_) U
 refine D2 1 [48+n%10] AV 1 5 RF U (A0 U) (by omega) U (A0 U) (λ w=>by kernel_rfl) U λ v=>?_
 refine CX (.v (str (toStr [48+n%10]))) U (A0 U) (by omega) U (λ w M hX=>PV.KB hX.st AX (hX.sl 1 U) (AT (v:=.sl 1 v) U (A0 U)) Tryz.underlying110 Tryz.underlying5 Tryz.underlying9) ?_
 have hd: ∀k:Int,len (toStr [48+k%10])=1:=λ k=>rfl
 refine DI (σ:=Int×A1) (λ(m,s)=>⟨[],[],[Z 0 (I m),Z 3 (.v (str s))]⟩) (λ(m,s)=>0<=m/\m<=n/\Lib.itoa n=(if 10<=m then Lib.itoa (m/10)else [])++s) (λ(m,s)=>m.toNat) (n,toStr [48+n%10]) U (A0 U) (by omega) U ⟨h0,Int.le_refl _,OL h0⟩ ?_
 rintro⟨m,s⟩ ⟨hm0,hm1,hs⟩
 have hsl:len s<=1099511627778:=by have:=congrArg len hs;rw[A5]at this;have:=AA (if 10<=m then Lib.itoa (m/10)else []);omega
 have hs0:=AA s
 refine AE U (A0 U) (by omega) (λ hb1=>?_) (λ hb1=>?_)<;>simp only[zb]at hb1
 ·refine D2 1 [48+(m/10)%10] AV 1 5 RF U (A0 U) (by omega) U (A0 U) (λ w=>by kernel_rfl) U λ v=>?_
  refine CX (.v (str (toStr [48+(m/10)%10]))) U (A0 U) (by omega) U (λ w M hX=>PV.KB hX.st AX (hX.sl 1 U) (AT (v:=.sl 1 v) U (A0 U)) Tryz.underlying110 Tryz.underlying5 Tryz.underlying9) ?_
  have hdm:=hd (m/10)
  refine CS (m/10,toStr [48+(m/10)%10]++s) U (A0 U) (by omega) U ⟨by omega,by omega,?_⟩ (by show Int.toNat _<Int.toNat _;omega)
  rw[hs,if_pos (by omega),OL (by omega),List.append_assoc]
 ·rw[if_neg (by omega),List.nil_append]at hs
  exact AD hB U U (A0 U) (by omega) U (A0 U) λ w M hX=>⟨by rw[hs];rfl,hX.st.low⟩
theorem lR{p:UInt8->Bool}: ∀ {a r:A1},(∀b∈a,p b=true)->(a++r).takeWhile p=a++r.takeWhile p
 |[],r,_=>rfl
 |x::a,r,h=>by rw[List.cons_append,List.takeWhile_cons,if_pos (h x List.mem_cons_self),lR (λ b hb=>h b (List.mem_cons_of_mem _ hb))];rfl
theorem AB0{s:A1}{j i:Int}(h0:0<=j)(h1:j<=i)(h2:i<=len s)(h7:i-j<=7)(ha:CJ (Eng.sub s j i))(hs:i-j=7\/len s<=i\/BM (A3 s i)=false):EE s j=Eng.sub s j i:=by
 have hl:=EV (s:=s) h0 h1 h2
 unfold EE
 rw[O0 s j i h0 h1,lR ha]
 rcases hs with hs|hs|hs
 ·rw[List.take_append_of_le_length (by unfold len at hl;omega),List.take_of_length_le (by unfold len at hl;omega)]
 ·rw[OJ s i hs,List.takeWhile_nil,List.append_nil,List.take_of_length_le (by unfold len at hl;omega)]
 ·by_cases hlt:i<len s
  ·obtain⟨b,e1,e2⟩:=IS s i (by omega) hlt
   rw[e1,List.takeWhile_cons,if_neg (by unfold C7;rw[<-e2,hs];decide),List.append_nil,List.take_of_length_le (by unfold len at hl;omega)]
  ·rw[OJ s i (by omega),List.takeWhile_nil,List.append_nil,List.take_of_length_le (by unfold len at hl;omega)]
theorem lS{t:A1}(h:CJ t)(hl:len t<=6):0<=BE t/\BE t<1000000:=by
 have:=vS h hl (len t)
 rwa [IP t _ (Int.le_refl _)]at this
theorem AB1{t:A1}(h:CJ t)(hl:len t<=7):0<=BE t/\BE t<10000000:=by
 induction t using WN with
 |h0=>decide
 |hs a c _=>
  rw[A5,show len [c]=1 from rfl]at hl
  have:=lS (t:=a) (λ b hb=>h b (by simp[hb])) (by omega)
  have hc:=h c (by simp)
  unfold C7 BM at hc
  simp only[zb]at hc
  rw[P2];omega
theorem AB2(s:A1)(j:Int)(w:World)(h0:0<=j)(h1:j<=len s)(hb:len s<=1099511627776):
  Calls Tryz.prog 173 [str s,i64 j].toArray w λ e w'=>e= .returned (.tuple #[i64 (H7 s j).1,i64 (H7 s j).2])/\Ext w w':=by
 refine B8 B3 Tryz.func173 U Tryz.ntmps173 [] [] [.v (str s),I j] U (H3 w) AF (λ B hB=>?_) U
 refine DI (σ:=Int) (λ i=>⟨[],[],[Z 0 (.v (str s)),Z 1 (I i),Z 6 (I (BE (Eng.sub s j i))),Z 7 (I j)]⟩) (λ i=>j<=i/\i<=len s/\i-j<=7/\CJ (Eng.sub s j i)) (λ i=>(len s-i).toNat) j rfl (A0 rfl) (by omega) (by rw[show Eng.sub s j j=[]from(QL h0 (Int.le_refl _) h1).2 rfl];rfl) ⟨Int.le_refl _,h1,by omega,by rw[show Eng.sub s j j=[]from(QL h0 (Int.le_refl _) h1).2 rfl];intro b hb;cases hb⟩ ?_
 rintro i ⟨hi0,hi1,hi7,hia⟩
 have hsl:=EV (s:=s) h0 hi0 hi1
 refine AE U (A0 U) (by simp only[zb]<;>omega) (λ hb1=>?_) (λ hb1=>?_)<;>simp only[zb]at hb1
 ·have h6:=lS hia (by omega)
  obtain⟨b,e1,e2⟩:=j0 (s:=s) h0 hi0 (by omega:i<len s)
  refine CS (i+1) U (A0 U) (by omega) ?_ ⟨by omega,by omega,by omega,?_⟩ (by show Int.toNat _<Int.toNat _;omega)
  ·rw[e1,P2,e2];rfl
  ·rw[e1];exact hia.app λ x hx=>by rw[List.mem_singleton.1 hx];unfold C7 BM;rw[e2];simp only[zb];omega
 ·have hst:i-j=7\/len s<=i\/BM (A3 s i)=false:=by
   by_cases h7:i-j=7
   ·exact .inl h7
   ·by_cases hl:len s<=i
    ·exact .inr (.inl hl)
    ·refine .inr (.inr ?_)
     rw[<-Bool.not_eq_true]
     unfold BM
     simp only[zb]
     omega
  have hg:=AB0 h0 hi0 hi1 hi7 hia hst
  have h7:=AB1 hia (by omega)
  have hne:(EE s j=[])↔i=j:=by rw[hg];exact QL h0 hi0 hi1
  refine AE U (A0 U) (by simp only[zb]<;>omega) (λ hb2=>?_) (λ hb2=>?_)<;>simp only[zb]at hb2
  ·have hc:EE s j=[]\/(A3 s j=48/\1<len (EE s j))\/1000000<BE (EE s j):=by
    rw[hne,hg];omega
   refine AD hB U U (A0 U) (by omega) U (A0 U) λ w M hX=>⟨?_,hX.st.low⟩
   unfold H7;rw[if_pos hc];rfl
  ·have hc: ¬(EE s j=[]\/(A3 s j=48/\1<len (EE s j))\/1000000<BE (EE s j)):=by
    rw[hne,hg];omega
   refine AD hB U U (A0 U) (by omega) U (A0 U) λ w M hX=>⟨?_,hX.st.low⟩
   unfold H7;rw[if_neg hc,hg,hsl,show j+(i-j)=i by omega];rfl
end Go.Proofs.YtmjpjbmeamnfpaaGreatDoor
set_option maxRecDepth 100000
namespace Go.Proofs.YtmjpjbmeamnfpaaGreatDoor
open Go.Eng
theorem AB3{t:A1}{p:Int}(h0:0<=p)(h1:p<len t):D7 (Eng.sub t 0 (p+1))=decide (p+1<=len (AY t)):=by
 have hl:=EV (s:=t) (i:=0) (j:=p+1) (Int.le_refl 0) (by omega) (by omega)
 have hb: ∀j:Int,0<=j->j<p+1->A3 (Eng.sub t 0 (p+1)) j=A3 t j:=λ j a b=>by
  have:=N5 (s:=t) (i:=0) (j:=p+1) (k:=j) (Int.le_refl 0) a (by omega) (by omega)
  rwa [Int.zero_add]at this
 have ho:=WC (s:=t) 0 (Int.le_refl 0)
 have hbd:=NQ (s:=t) (i:=0) (Int.le_refl 0) (AA t)
 rw[Bool.eq_iff_iff,decide_eq_true_eq,LC,QN]
 constructor
 ·rintro⟨_,h⟩
  rcases Int.lt_or_le (D6 t 0) (p+1)with hc|hc
  ·have h2:=ho.2 (AA t) (by omega)
   rw[<-hb _ hbd.1 hc,h _ hbd.1 (by omega)]at h2;cases h2
  ·exact hc
 ·intro hc
  refine⟨λ e=>by rw[e,len_nil]at hl;omega,λ j a b=>?_⟩
  rw[hb j a (by omega)]
  exact ho.1 j a (by omega)
abbrev spV(x:Sp):Value:=.agg #[.bool x.part,str x.name,i64 x.n]
theorem AB5(s:A1)(i:Int)(first:Bool)(w:World)(h0:0<=i)(h1:i<=len s)(hb:len s<=1048576):
  Calls Tryz.prog 134 [str s,i64 i,.bool first].toArray w λ e w'=>e= .returned (.tuple #[spV (DL s i first).1,i64 (DL s i first).2])/\Ext w w':=by
 refine B8 B3 Tryz.func134 U Tryz.ntmps134 [] [] [.v (str s),I i,.v (.bool first)] U (H3 w) AF (λ B hB=>?_) U
 refine CY 1 U (A0 U) (by omega) Tryz.zeroValue68 U λ bb=>?_
 refine G8 0 (λ s'=> ∃j,i<=j/\j<=len s/\DL s i first=O9 s i j/\s'=⟨[],[(1,.box bb [.v (.bool false),.v (str []),I 0] 68)],[Z 0 (.v (str s)),Z 1 (I j),Z 6 (.bx 1 bb 0),Z 8 (I i)]⟩) U (A0 U) (by simp only[zb]<;>omega) U (λ hb1=>?_) (λ hb1=>?_) ?_
 ·simp only[zb]at hb1
  have h46:A3 s i=46:=by omega
  have hfl:=DV s (i+1) (by omega) (by omega)
  have hwb:=NR (A4 s (i+1))
  refine DI (σ:=Int) (λ k=>⟨[],[(1,.box bb [.v (.bool false),.v (str []),I 0] 68)],[Z 0 (.v (str s)),Z 1 (I (i+1)),Z 2 (.v (.bool first)),Z 6 (.bx 1 bb 0),Z 8 (I i),Z 9 (I k)]⟩) (λ k=>i+1<=k/\k<=i+1+len (AY (A4 s (i+1)))) (λ k=>(len s-k).toNat) (i+1) U (A0 U) (by omega) U ⟨by omega,by omega⟩ ?_
  rintro k ⟨hk0,hk1⟩
  have hpre:k<len s->D7 (Eng.sub s (i+1) (k+1))=decide (k+1<=i+1+len (AY (A4 s (i+1)))):=λ hk=>by
   have h2:=AB3 (t:=A4 s (i+1)) (p:=k-(i+1)) (by omega) (by omega)
   rw[aC s (i+1) _ (by omega) (by omega),show i+1+(k-(i+1)+1)=k+1 by omega]at h2
   rw[h2];congr 1;rw[eq_iff_iff];omega
  refine B7 U (A0 U) (by simp only[zb]<;>omega) Tryz.call52 U U (A0 U) (λ _ w M hX=>QU (UG (Eng.sub s (i+1) (k+1)) w (by unfold Eng.sub len at*;rw[List.length_take];omega))) U ?_
  refine AE U (A0 U) (by simp only[zb]<;>omega) (λ hb2=>?_) (λ hb2=>?_)<;>simp only[zb]at hb2
  ·have:=hpre (by omega)
   rw[hb2.2]at this
   have:=of_decide_eq_true this.symm
   exact CS (k+1) U (A0 U) (by omega) U ⟨by omega,by omega⟩ (by show Int.toNat _<Int.toNat _;omega)
  have hke:k=i+1+len (AY (A4 s (i+1))):=by
   rcases hb2 with hb2|hb2
   ·omega
   ·by_cases hk:k<len s
    ·rw[hpre hk]at hb2
     have:=of_decide_eq_false hb2;omega
    ·omega
  refine AE U (A0 U) (by omega) (λ hb3=>?_) (λ hb3=>?_)<;>simp only[zb]at hb3
  ·have hne:AY (A4 s (i+1))≠[]:=λ e=>by rw[e,len_nil]at hke;omega
   have hsub:Eng.sub s (i+1) k=AY (A4 s (i+1)):=by
    have h2:=aC s (i+1) (len (AY (A4 s (i+1)))) (by omega) (by omega)
    rw[hke,<-h2,LC];rfl
   have hres:DL s i first=(⟨false,AY (A4 s (i+1)),0⟩,i+1+len (AY (A4 s (i+1)))):=by unfold DL;rw[if_pos ⟨hb1.1,h46⟩,if_pos hne]
   refine AD hB U U (A0 U) (by omega) U (A0 U) λ w M hX=>⟨?_,hX.st.low⟩
   rw[hres,hke]
   show Ending.returned (.tuple #[.agg #[.bool false,str (Eng.sub s (i+1) (i+1+len (AY (A4 s (i+1))))),i64 0],_])=_
   rw[<-hke,hsub];rfl
  have he:AY (A4 s (i+1))=[]:=Classical.byContradiction λ e=>by have:=HC e;omega
  have hub:=MN (A4 s (i+1))
  have hul:=bV (A4 s (i+1))
  refine B7 U (A0 U) (by omega) Tryz.call172 U U (A0 U) (λ _ w M hX=>AA9 (A4 s (i+1)) w (by omega)) U ?_
  refine SN U (A0 U) (by omega) IA (by decide+kernel) ?_
  refine QC U (A0 U) (by simp only[zb]<;>omega) Tryz.call52 U U (A0 U) (λ _ w M hX=>QU (UG (AS (A4 s (i+1))).1 w (by omega))) U ?_
  refine QC U (A0 U) (by simp only[zb]<;>omega) Tryz.call53 U U (A0 U) (λ _ w M hX=>WO (AS (A4 s (i+1))).1 w (by omega)) U ?_
  refine SP U (A0 U) (by simp only[zb]<;>omega) ?_
  refine AE U (A0 U) (by omega) (λ hb4=>?_) (λ hb4=>?_)<;>simp only[zb]at hb4
  ·have hres:DL s i first=(⟨false,(AS (A4 s (i+1))).1,0⟩,i+1+(AS (A4 s (i+1))).2.1):=by
    unfold DL;rw[if_pos ⟨hb1.1,h46⟩,if_neg (by rw[he];simp),if_pos ⟨hb4.1.1,hb4.1.2,hb4.2⟩]
   refine AD hB U U (A0 U) (by omega) U (A0 U) λ w M hX=>⟨?_,hX.st.low⟩
   rw[hres];rfl
  have hn4: ¬((AS (A4 s (i+1))).2.2=0/\D7 (AS (A4 s (i+1))).1=false/\IU (AS (A4 s (i+1))).1=Eng.sub s (i+1) (i+1+(AS (A4 s (i+1))).2.1)):=by
   rintro⟨q1,q2,q3⟩
   rcases hb4 with(h|h)|h
   ·exact h q1
   ·rw[q2]at h;cases h
   ·exact h q3
  refine AE U (A0 U) (by omega) (λ hb5=>?_) (λ hb5=>?_)<;>simp only[zb]at hb5
  ·have hres:DL s i first=(O8,i):=by
    unfold DL;rw[if_pos ⟨hb1.1,h46⟩,if_neg (by rw[he];simp),if_neg hn4,if_pos hb5]
   refine AD hB U U (A0 U) (by omega) U (A0 U) λ w M hX=>⟨?_,hX.st.low⟩
   rw[hres];rfl
  refine BO _ U (A0 U) (by omega) U ⟨i+1,by omega,by omega,?_,rfl⟩
  unfold DL;rw[if_pos ⟨hb1.1,h46⟩,if_neg (by rw[he];simp),if_neg hn4,if_neg (by rw[hb5];decide)]
 ·simp only[zb]at hb1
  have hn: ¬(i<len s/\A3 s i=46):=by omega
  refine AE U (A0 U) (by omega) (λ hb5=>?_) (λ hb5=>?_)
  ·have hres:DL s i first=(O8,i):=by unfold DL;rw[if_neg hn,if_pos hb5]
   refine AD hB U U (A0 U) (by omega) U (A0 U) λ w M hX=>⟨?_,hX.st.low⟩
   rw[hres];rfl
  refine BO _ U (A0 U) (by omega) U ⟨i,Int.le_refl _,h1,?_,rfl⟩
  unfold DL;rw[if_neg hn,if_neg (by rw[hb5];decide)]
 ·rintro _ ⟨j,hj0,hj1,hst,rfl⟩
  refine AE U (A0 U) (by simp only[zb]<;>omega) (λ hb6=>?_) (λ hb6=>?_)<;>simp only[zb]at hb6
  ·have hres:DL s i first=(O8,i):=by rw[hst];unfold O9;rw[if_pos (by omega)]
   refine AD hB U U (A0 U) (by omega) U (A0 U) λ w M hX=>⟨?_,hX.st.low⟩
   rw[hres];rfl
  refine B7 U (A0 U) (by omega) Tryz.call173 U U (A0 U) (λ _ w M hX=>AB2 s (j+1) w (by omega) (by omega) (by omega)) U ?_
  have hfb:j+1<=(H7 s (j+1)).2/\(H7 s (j+1)).2<=len s:=by
   unfold H7
   obtain⟨r,hr⟩:=lH s (j+1)
   have hl:=DV s (j+1) (by omega) (by omega)
   rw[hr,A5]at hl
   have:=AA r
   have:=AA (EE s (j+1))
   split<;>dsimp only<;>omega
  refine AE U (A0 U) (by simp only[zb]<;>omega) (λ hb7=>?_) (λ hb7=>?_)<;>simp only[zb]at hb7
  ·have hres:DL s i first=(O8,i):=by rw[hst];unfold O9;rw[if_neg (by omega),if_pos (by omega)]
   refine AD hB U U (A0 U) (by omega) U (A0 U) λ w M hX=>⟨?_,hX.st.low⟩
   rw[hres];rfl
  ·have hres:DL s i first=(⟨true,[],(H7 s (j+1)).1⟩,(H7 s (j+1)).2+1):=by rw[hst];unfold O9;rw[if_neg (by omega),if_neg (by omega)]
   refine AD hB U U (A0 U) (by omega) U (A0 U) λ w M hX=>⟨?_,hX.st.low⟩
   rw[hres];rfl
theorem AB6{s:A1}{i:Int}{first:Bool}(h0:0<=i)(h1:i<=len s):i<=(DL s i first).2/\(DL s i first).2<=len s:=by
 by_cases h:(DL s i first).2=i
 ·rw[h];omega
 ·have:=lJ h0 (x:=(DL s i first).1) (zz:=(DL s i first).2) U h
  omega
theorem QV{α:Type}{l:List α}(h:len l=0):l=[]:=by
 cases l with
 |nil=>rfl
 |cons a l=>rw[A7]at h;have:=AA l;omega
theorem T9{α:Type}(p:List α):p.isEmpty=(len p==0):=by
 cases p with
 |nil=>rfl
 |cons a p=>symm;show _=false;rw[beq_eq_false_iff_ne,A7];have:=AA p;omega
theorem Sp.cells_one (x:Sp): ∀u∈x.cells,u.oneCell'=true:=by intro u hu;simp[Sp.cells]at hu;rcases hu with rfl|rfl|rfl<;>rfl
theorem AB7{wv:World}{M:Mem}(s:A1)(hS:Sat wv M)(hb:len s<=1048576):
  Calls Tryz.prog 89 [str s,i64 0].toArray wv (QA wv M (λ v:Value=>.tuple #[v,i64 (EZ s 0).2]) (λ _=>True) (λ v=>[(0,kn v 3 (EZ s 0).1 Sp.cells)])):=by
 have hl0:=AA s
 refine B8 B3 Tryz.func89 U Tryz.ntmps89 [] [] [.v (str s),I 0] U (St.start hS) AF (λ B hB=>?_) U
 refine D2 1 [] Sp.cells 3 68 Sp.BI U (A0 U) (by omega) U (A0 U) (λ w=>by kernel_rfl) U λ v=>?_
 refine DI (σ:=Int×Value×List Sp) (λ(i,v,p)=>⟨[(1,kn v 3 p Sp.cells)],[(1,.ho (.own 68 3 v p.length (p.flatMap Sp.cells)))],[Z 0 (.v (str s)),Z 1 (I i),Z 6 (.sl 1 v),Z 7 (I 0)]⟩) (λ(i,v,p)=>0<=i/\i<=len s/\len p<=20/\GP (20-p.length) s p i=GP 20 s [] 0) (λ(i,v,p)=>20-p.length) (0,v,[]) U (A0 U) (by omega) U ⟨by omega,hl0,by show(0:Int)<=20;omega,rfl⟩ ?_
 rintro⟨i,v,p⟩ ⟨hi0,hi1,hp20,hbg⟩
 have hpl:(p.length:Int)=len p:=rfl
 have hp0:=AA p
 refine AE U (A0 U) (by omega) (λ hb1=>?_) (λ hb1=>?_)<;>simp only[zb]at hb1
 ·have hsb:=AB6 (first:=len p==0) hi0 hi1
  obtain⟨f,hf⟩: ∃f,20-p.length=f+1:=⟨19-p.length,by omega⟩
  refine B7 U (A0 U) (by omega) Tryz.call134 U U (A0 U) (λ _ w M hX=>AB5 s i (len p==0) w hi0 hi1 hb) U ?_
  refine CY 2 U (A0 U) (by omega) Tryz.zeroValue68 U λ bb=>?_
  refine AE U (A0 U) (by omega) (λ hb3=>?_) (λ hb3=>?_)<;>simp only[zb]at hb3
  ·have hfin:GP 20 s [] 0=(p,i):=by rw[<-hbg,hf,GP,T9,if_pos hb3]
   refine AE U (A0 U) (by simp only[zb]<;>omega) (λ hb2=>?_) (λ hb2=>?_)<;>simp only[zb]at hb2
   ·have hpe:p=[]:=QV (by omega)
    have hres:EZ s 0=([],0+1):=by unfold EZ;rw[hfin,if_pos ⟨hpe,by omega,by omega⟩]
    subst hpe
    exact AD hB U U (A0 U) (by omega) U (A0 U) λ w M hX=>⟨v,M,by rw[hres];rfl,trivial,hX.st.done,by rw[hres];exact fc 0 (hX.sl 1 U) Sp.BI AF⟩
   ·have hres:EZ s 0=(p,i):=by
     unfold EZ;rw[hfin,if_neg]
     rintro⟨q1,q2,q3⟩
     have q1:p=[]:=q1
     rw[q1,len_nil]at hb2;omega
    exact AD hB U U (A0 U) (by omega) U (A0 U) λ w M hX=>⟨v,M,by rw[hres];rfl,trivial,hX.st.done,by rw[hres];exact fc 0 (hX.sl 1 U) Sp.BI AF⟩
  ·refine D2 3 [(DL s i (len p==0)).1] Sp.cells 3 68 Sp.BI U (A0 U) (by omega) U (A0 U) (λ w=>by kernel_rfl) U λ v2=>?_
   refine KN 32 U (A0 U) (by omega) U (A0 U) U Tryz.underlying70 Tryz.type68 U U Sp.cells_one (by simp only[A7,len_nil];omega) λ v'=>?_
   refine CS ((DL s i (len p==0)).2,v',p++[(DL s i (len p==0)).1]) U (A0 U) (by omega) U ⟨by omega,by omega,by rw[A5];show len p+1<=20;omega,?_⟩ (by show 20-(p++[_]).length<20-p.length;rw[List.length_append,List.length_singleton];omega)
   rw[<-hbg,hf,GP,T9,if_neg hb3,List.length_append,List.length_singleton,show 20-(p.length+1)=f by omega]
 ·have hfin:GP 20 s [] 0=(p,i):=by rw[<-hbg,show 20-p.length=0 by omega,GP]
  refine AE U (A0 U) (by simp only[zb]<;>omega) (λ hb2=>?_) (λ hb2=>?_)<;>simp only[zb]at hb2
  ·have hpe:p=[]:=QV (by omega)
   have hres:EZ s 0=([],0+1):=by unfold EZ;rw[hfin,if_pos ⟨hpe,by omega,by omega⟩]
   subst hpe
   exact AD hB U U (A0 U) (by omega) U (A0 U) λ w M hX=>⟨v,M,by rw[hres];rfl,trivial,hX.st.done,by rw[hres];exact fc 0 (hX.sl 1 U) Sp.BI AF⟩
  ·have hres:EZ s 0=(p,i):=by
    unfold EZ;rw[hfin,if_neg]
    rintro⟨q1,q2,q3⟩
    have q1:p=[]:=q1
    rw[q1,len_nil]at hb2;omega
   exact AD hB U U (A0 U) (by omega) U (A0 U) λ w M hX=>⟨v,M,by rw[hres];rfl,trivial,hX.st.done,by rw[hres];exact fc 0 (hX.sl 1 U) Sp.BI AF⟩
theorem AB8{wv:World}{M:Mem}(s:A1)(hS:Sat wv M)(hb:len s<=1048576):
  Calls Tryz.prog 60 [str s].toArray wv (QA wv M (λ v:Value=>.tuple #[v,i64 (EF s).2.1,i64 (EF s).2.2]) (λ _=>True) (λ v=>[(0,kn v 3 (EF s).1 Sp.cells)])):=by
 refine B8 B3 Tryz.func60 U Tryz.ntmps60 [] [] [.v (str s)] U (St.start hS) AF (λ B hB=>?_) U
 refine J5 (λ v:Value=>.tu [.sl 1 v,I (EZ s 0).2]) [1] U (A0 U) (by omega) U Tryz.call89 U U (A0 U) (λ w M hX=>AB7 s hX.st.sat hb) (λ _=>rfl) λ v _=>?_
 refine AE U (A0 U) (by omega) (λ hb1=>?_) (λ hb1=>?_)<;>simp only[zb]at hb1
 ·have hres:EF s=((EZ s 0).1,0,0):=by unfold EF;rw[if_pos hb1]
  exact AD hB U U (A0 U) (by omega) U (A0 U) λ w M hX=>⟨v,M,by rw[hres];rfl,trivial,hX.st.done,by rw[hres];exact fc 0 (hX.sl 1 U) Sp.BI AF⟩
 refine AE U (A0 U) (by omega) (λ hb2=>?_) (λ hb2=>?_)<;>simp only[zb]at hb2
 ·have hres:EF s=([],0,1):=by unfold EF;rw[if_neg hb1,if_pos (QV hb2)]
  refine AD hB U U (A0 U) (by omega) U (A0 U) λ w M hX=>⟨.slice none 0 0,M,by rw[hres];rfl,trivial,hX.st.done,by rw[hres];exact fc 0 (l:=([]:List Sp)) (Sl.nil ..) Sp.BI AF⟩
 refine AE U (A0 U) (by omega) (λ hb3=>?_) (λ hb3=>?_)<;>simp only[zb]at hb3
 ·have hres:EF s=([],(EZ s 0).2,1):=by unfold EF;rw[if_neg hb1,if_neg (λ e=>hb2 (by rw[e];rfl)),if_pos hb3]
  refine AD hB U U (A0 U) (by omega) U (A0 U) λ w M hX=>⟨.slice none 0 0,M,by rw[hres];rfl,trivial,hX.st.done,by rw[hres];exact fc 0 (l:=([]:List Sp)) (Sl.nil ..) Sp.BI AF⟩
 ·have hres:EF s=((EZ s 0).1,0,0):=by unfold EF;rw[if_neg hb1,if_neg (λ e=>hb2 (by rw[e];rfl)),if_neg (by omega)]
  exact AD hB U U (A0 U) (by omega) U (A0 U) λ w M hX=>⟨v,M,by rw[hres];rfl,trivial,hX.st.done,by rw[hres];exact fc 0 (hX.sl 1 U) Sp.BI AF⟩
theorem lT(s:A1)(w:World)(hb:len s<=1048576):Calls Tryz.prog 102 [str s].toArray w λ e w'=>e= .returned (.bool (K0 s))/\Ext w w':=by
 refine B8 B3 Tryz.func102 U Tryz.ntmps102 [] [] [.v (str s)] U (H3 w) AF (λ B hB=>?_) U
 refine J5 (λ v:Value=>.tu [.sl 1 v,I (EF s).2.1,I (EF s).2.2]) [1] U (A0 U) (by omega) U Tryz.call60 U U (A0 U) (λ w M hX=>AB8 s hX.st.sat hb) (λ _=>rfl) λ v _=>?_
 exact AD hB U U (A0 U) (by omega) U (A0 U) λ w M hX=>⟨rfl,hX.st.low⟩
end Go.Proofs.YtmjpjbmeamnfpaaGreatDoor
