/- Lemmas for the card. -/
import Derived.Test.YtmjpjbmeamnfpaaGreatDoorZf12
set_option linter.unusedVariables false
set_option linter.unusedSimpArgs false
set_option maxRecDepth 100000
namespace Go.Proofs.YtmjpjbmeamnfpaaGreatDoor
open Go.Proofs.Tryz
open Go.Eng
theorem lI(s:A1)(w:World):Calls prog 47 [str s,str [48,49,50,51,52,53,54,55,56,57,43,45,46,101,69]].toArray w λ e w'=>e= .returned (str (D9 s))/\Ext w w':=V7 s _ w (by decide) (TV (by decide))
theorem lJ(s:A1)(w:World):Calls prog 47 [str s,str [32,9,10,13]].toArray w λ e w'=>e= .returned (str (PB s))/\Ext w w':=V7 s _ w (by decide) (TV (by decide))
theorem AE0{w wv:World}{M0 M:Mem}{Rs:List HO}(b:Nat)(cs:List Value)(X:HO)(s:A1)(hS:St w M0 wv M (.box b cs 104::X::Rs))(hm:MN M cs X)(hg:Gl w)(h0:0<len s)(hb:len s<=1099511627776):
  Calls prog 48 [(.pointer (some ⟨b,0,none⟩)),(str s)].toArray wv λ e w'=> ∃v,e= .returned v/\ ∃cs' X' M',v= .tuple #[.agg (Tk.cells (AB s).1).toArray,i64 (AB s).2.1,i64 (AB s).2.2]/\MN M' cs' X'/\St w M0 w' M' (.box b cs' 104::X'::Rs)/\M.le M':=by
 refine CW.BH func48 U ntmps48 (Nat.le_of_ble_eq_true U) λ Q hE=>?_
 have hf1:=LU s 1
 have hfl:=CO s 1 (by omega) (by omega)
 have hw1:=OC (A3 s 1)
 have hu1:=N8 (A3 s 1)
 have hsb:=HB s 0 (len s-len (D9 s))
 have hdn:=vL s
 have hrn:Eng.sub s 0 (len s-len (D9 s))=Eng.runN s:=rfl
 have hisf:BG (A2 s 0)=true↔(48<=A2 s 0/\A2 s 0<=57):=by unfold BG;simp
 refine An [0,1] (L':=[Y 0 (.pointer (some ⟨b,0,none⟩)),Y 1 (str s)]) ?_ U
 refine Ad ?_
 refine RL.alloc hS zeroValue63 U (λ w1 b2 hS3=>?_)
 refine Ab (.assign .c) U (Ab (.assign .c) U (Aa (Ac ?_)))
 refine Ag (Ad (Ae U U (Ab (.C2 (.t U) .c underlying9 (λ _=>by omega)) U (Ab (.eql (.t U) .c) U (Aa (Ac ?_))))))
 refine Af rfl ?_ ?_<;>intro hb1<;>try simp only[zb]at hb1
 ·refine Ag (Ad (Ae U U (Ab (.JS (.t U) .c underlying9 (λ _=>by omega)) U ?_)))
  refine RL.D6 hS3 .none call76 (.cons (.t U) .nil) (λ _=>(aU (Eng.A3 s 1) _ (by omega))) U (λ w4 hS5=>?_)
  refine Aj U U ?_
  refine Aa (CW.at [Y 0 (.pointer (some ⟨b,0,none⟩)),Y 1 (str s),Y 4 (.pointer (some ⟨b2,0,none⟩)),Y 7 (str (AS (Eng.A3 s 1)))] U (Ad (Ae U U (Ab (.N1 (.t U) .c) U (Aa (Ac ?_))))))
  refine Af rfl ?_ ?_<;>intro hb2<;>try simp only[zb]at hb2
  ·refine Ad (Ae U U (Ab (.build (vs:=[(0,(i64 3)),(1,(str (AS (Eng.A3 s 1))))]) (v:=(.agg #[(i64 3),(str (AS (Eng.A3 s 1))),(i64 0),(i64 0),(str []),(str []),(.bool false),(i64 0),(i64 0)])) (.cons .c (.cons (.t U) .nil)) (λ w=>by kernel_rfl)) U (Ae U U (Ab (.BR (.t U) underlying9) U (Ab (.add .c (.t U) (λ _=>by omega)) U ?_)))))
   refine RL.st hS5 (i:=0) U (.t U) (.t U) sizeOf63 U U U U U (λ w6 hS7=>?_)
   refine Aj U U (Ab (.assign .c) U (Aa (Ac ?_)))
   refine Ah (hE.R3 U (.IA hS7 (i:=0) U U isAgg63 sizeOf63) (show RV _ _ _ (.tmp _) _ from rfl) (show RV _ _ _ (.tmp _) _ from rfl) ?_)
   replace hS7:St w M0 w6 M (.box b cs 104::X::Rs):=hS7.erase 0 U
   clear hE
   have hq:AB s=((⟨3,AS (Eng.A3 s 1),⟨0,0,[],[],false,0⟩,0⟩:Tk),1+(len (AS (Eng.A3 s 1))),0):=by
    unfold AB
    rw[if_pos (by first|assumption|omega|(simp_all;done)|grind)]
    try rfl
   exact⟨_,rfl,_,_,_,by rw[hq];rfl,hm,hS7,(Mem.le.refl _)⟩
  ·refine Ai (Ac (Ad (Ae U U (Ab (.JS (.t U) .c underlying9 (λ _=>by omega)) U ?_))))
   refine RL.DC .none call77 (.cons (.t U) (.cons .c .nil)) (λ _=>(P6 (Eng.A3 s 1) [34] _)) U ?_
   refine Aa (CW.at [Y 0 (.pointer (some ⟨b,0,none⟩)),Y 1 (str s),Y 4 (.pointer (some ⟨b2,0,none⟩)),Y 36 (.bool (Lib.hasPrefix (Eng.A3 s 1) [34]))] U ?_)
   refine Af rfl ?_ ?_<;>intro hb3<;>try simp only[zb]at hb3
   ·refine Ad (Ae U U (Ab (.JS (.t U) .c underlying9 (λ _=>by omega)) U ?_))
    refine RL.D6 hS5 .none call78 (.cons (.t U) .nil) (λ _=>(WX (Eng.A3 s 1) _ (hg.low hS5.low) (by first|omega|exact Int.le_trans (LU _ _).2 (by omega)))) U (λ w8 hS9=>?_)
    refine Ae U U (Ab (.ex (.t U) U) U (Ab (.ex (.t U) U) U (Ab (.ex (.t U) U) U (Aj U U (Aj U U ?_)))))
    refine Aj U U ?_
    refine Aa (CW.at [Y 4 (.pointer (some ⟨b2,0,none⟩)),Y 8 (str ((AH (Eng.A3 s 1)).1)),Y 9 (i64 ((AH (Eng.A3 s 1)).2.1)),Y 10 (i64 ((AH (Eng.A3 s 1)).2.2))] U (Ad (Ae U U (Ab (.build (vs:=[(0,(i64 3)),(1,(str ((AH (Eng.A3 s 1)).1)))]) (v:=(.agg #[(i64 3),(str ((AH (Eng.A3 s 1)).1)),(i64 0),(i64 0),(str []),(str []),(.bool false),(i64 0),(i64 0)])) (.cons .c (.cons (.t U) .nil)) (λ w=>by kernel_rfl)) U (Ae U U (Ab (.add .c (.t U) (λ _=>by omega)) U (Ae U U ?_)))))))
    refine RL.st hS9 (i:=0) U (.t U) (.t U) sizeOf63 U U U U U (λ w10 hS11=>?_)
    refine Aj U U (Aj U U (Aa (Ac ?_)))
    refine Ah (hE.R3 U (.IA hS11 (i:=0) U U isAgg63 sizeOf63) (show RV _ _ _ (.tmp _) _ from rfl) (show RV _ _ _ (.tmp _) _ from rfl) ?_)
    replace hS11:St w M0 w10 M (.box b cs 104::X::Rs):=hS11.erase 0 U
    clear hE
    have hq:AB s=((⟨3,(AH (Eng.A3 s 1)).1,⟨0,0,[],[],false,0⟩,0⟩:Tk),1+((AH (Eng.A3 s 1)).2.1),(AH (Eng.A3 s 1)).2.2):=by
     unfold AB
     rw[if_neg (by first|assumption|omega|(simp_all;done)|grind),if_pos (by first|assumption|omega|(simp_all;done)|grind)]
     try rfl
    exact⟨_,rfl,_,_,_,by rw[hq];rfl,hm,hS11,(Mem.le.refl _)⟩
   ·refine Ai (Ac (Ag (Ad (Ae U U (Ae U U ?_)))))
    replace hS5:St w M0 w4 M (.box b cs 104::X:: .box b2 [(i64 0),(str []),(i64 0),(i64 0),(str []),(str []),(.bool false),(i64 0),(i64 0)] 63::Rs):=(hS5.front 2 U U).front 2 U U
    refine RL.DP call79 (.cons (.t U) (.cons (.t U) .nil)) (kV (Rs:=(.box b2 [(i64 0),(str []),(i64 0),(i64 0),(str []),(str []),(.bool false),(i64 0),(i64 0)] 63::Rs)) b cs X s hS5 (by assumption) hg (by omega) (by omega)) U ?_
    rintro v15 w16 ⟨cs12,X13,M17,rfl,hm14,hS18,hle19⟩
    replace hS18:St w M0 w16 M17 (.box b cs12 104::X13:: .box b2 [(i64 0),(str []),(i64 0),(i64 0),(str []),(str []),(.bool false),(i64 0),(i64 0)] 63::Rs):=hS18
    refine Aj U U ?_
    refine Aa (CW.at [Y 1 (str s),Y 4 (.pointer (some ⟨b2,0,none⟩)),Y 11 (str (BY s))] U (Ad (Ae U U (Ab (.N1 (.t U) .c) U (Aa (Ac ?_))))))
    refine Af rfl ?_ ?_<;>intro hb4<;>try simp only[zb]at hb4
    ·refine Ad (Ae U U (Ab (.build (vs:=[(0,(i64 1)),(1,(str (BY s)))]) (v:=(.agg #[(i64 1),(str (BY s)),(i64 0),(i64 0),(str []),(str []),(.bool false),(i64 0),(i64 0)])) (.cons .c (.cons (.t U) .nil)) (λ w=>by kernel_rfl)) U (Ae U U (Ab (.BR (.t U) underlying9) U ?_))))
     refine RL.st hS18 (i:=2) U (.t U) (.t U) sizeOf63 U U U U U (λ w20 hS21=>?_)
     refine Aj U U (Ab (.assign .c) U (Aa (Ac ?_)))
     refine Ah (hE.R3 U (.IA hS21 (i:=2) U U isAgg63 sizeOf63) (show RV _ _ _ (.tmp _) _ from rfl) (show RV _ _ _ (.tmp _) _ from rfl) ?_)
     replace hS21:St w M0 w20 M17 (.box b cs12 104::X13::Rs):=hS21.erase 2 U
     clear hE
     have hq:AB s=((⟨1,BY s,⟨0,0,[],[],false,0⟩,0⟩:Tk),len (BY s),0):=by
      unfold AB
      rw[if_neg (by first|assumption|omega|(simp_all;done)|grind),if_neg (by first|assumption|omega|(simp_all;done)|grind),if_pos (by first|assumption|omega|(simp_all;done)|grind)]
      try rfl
     exact⟨_,rfl,_,_,_,by rw[hq];rfl,hm14,hS21,hle19⟩
    ·refine Ai (Ac (Ag (Ad (Ae U U ?_))))
     refine RL.D6 hS18 .none call76 (.cons (.t U) .nil) (λ _=>(aU s _ (by omega))) U (λ w22 hS23=>?_)
     refine Aj U U ?_
     refine Aa (CW.at [Y 1 (str s),Y 4 (.pointer (some ⟨b2,0,none⟩)),Y 12 (str (AS s))] U (Ad (Ae U U (Ab (.N1 (.t U) .c) U (Aa (Ac ?_))))))
     refine Af rfl ?_ ?_<;>intro hb5<;>try simp only[zb]at hb5
     ·refine Ad (Ae U U (Ab (.build (vs:=[(0,(i64 2)),(1,(str (AS s)))]) (v:=(.agg #[(i64 2),(str (AS s)),(i64 0),(i64 0),(str []),(str []),(.bool false),(i64 0),(i64 0)])) (.cons .c (.cons (.t U) .nil)) (λ w=>by kernel_rfl)) U (Ae U U (Ab (.BR (.t U) underlying9) U ?_))))
      refine RL.st hS23 (i:=2) U (.t U) (.t U) sizeOf63 U U U U U (λ w24 hS25=>?_)
      refine Aj U U (Ab (.assign .c) U (Aa (Ac ?_)))
      refine Ah (hE.R3 U (.IA hS25 (i:=2) U U isAgg63 sizeOf63) (show RV _ _ _ (.tmp _) _ from rfl) (show RV _ _ _ (.tmp _) _ from rfl) ?_)
      replace hS25:St w M0 w24 M17 (.box b cs12 104::X13::Rs):=hS25.erase 2 U
      clear hE
      have hq:AB s=((⟨2,AS s,⟨0,0,[],[],false,0⟩,0⟩:Tk),len (AS s),0):=by
       unfold AB
       rw[if_neg (by first|assumption|omega|(simp_all;done)|grind),if_neg (by first|assumption|omega|(simp_all;done)|grind),if_neg (by first|assumption|omega|(simp_all;done)|grind),if_pos (by first|assumption|omega|(simp_all;done)|grind)]
       try rfl
      exact⟨_,rfl,_,_,_,by rw[hq];rfl,hm14,hS25,hle19⟩
     ·refine Ai (Ac (Ag (Ad (Ae U U (Ab (.C2 (.t U) .c underlying9 (λ _=>by omega)) U (Aj U U (Aa (Ac ?_))))))))
      refine Am (Ad (Ae U U (Ab (.eql (.t U) .c) U (Aj U U (Aa (Ac ?_))))))
      refine Af rfl ?_ ?_<;>intro hb6<;>try simp only[zb]at hb6
      ·refine Ad (Ae U U ?_)
       refine RL.D6 hS23 .none call78 (.cons (.t U) .nil) (λ _=>(WX s _ (hg.low hS23.low) (by first|omega|exact Int.le_trans (LU _ _).2 (by omega)))) U (λ w26 hS27=>?_)
       refine Ae U U (Ab (.ex (.t U) U) U (Ab (.ex (.t U) U) U (Ab (.ex (.t U) U) U (Aj U U (Aj U U ?_)))))
       refine Aj U U ?_
       refine Aa (CW.at [Y 4 (.pointer (some ⟨b2,0,none⟩)),Y 14 (str ((AH s).1)),Y 15 (i64 ((AH s).2.1)),Y 16 (i64 ((AH s).2.2))] U (Ad (Ae U U (Ab (.build (vs:=[(0,(i64 4)),(1,(str ((AH s).1)))]) (v:=(.agg #[(i64 4),(str ((AH s).1)),(i64 0),(i64 0),(str []),(str []),(.bool false),(i64 0),(i64 0)])) (.cons .c (.cons (.t U) .nil)) (λ w=>by kernel_rfl)) U (Ae U U (Ae U U ?_))))))
       refine RL.st hS27 (i:=2) U (.t U) (.t U) sizeOf63 U U U U U (λ w28 hS29=>?_)
       refine Aj U U (Aj U U (Aa (Ac ?_)))
       refine Ah (hE.R3 U (.IA hS29 (i:=2) U U isAgg63 sizeOf63) (show RV _ _ _ (.tmp _) _ from rfl) (show RV _ _ _ (.tmp _) _ from rfl) ?_)
       replace hS29:St w M0 w28 M17 (.box b cs12 104::X13::Rs):=hS29.erase 2 U
       clear hE
       have hq:AB s=((⟨4,(AH s).1,⟨0,0,[],[],false,0⟩,0⟩:Tk),(AH s).2.1,(AH s).2.2):=by
        unfold AB
        rw[if_neg (by first|assumption|omega|(simp_all;done)|grind),if_neg (by first|assumption|omega|(simp_all;done)|grind),if_neg (by first|assumption|omega|(simp_all;done)|grind),if_neg (by first|assumption|omega|(simp_all;done)|grind),if_pos (by first|assumption|omega|(simp_all;done)|grind)]
        try rfl
       exact⟨_,rfl,_,_,_,by rw[hq];rfl,hm14,hS29,hle19⟩
      ·refine Ad (Ae U U (Ab (.eql (.t U) .c) U (Ae U U (RL.v (.neg U U) (.move (.t U)) U (RL.v (.neg U U) (.geq (.g U (λ h=>h)) .c) U (RL.v (.neg U U) (.move (.g U (λ h=>h))) U (RL.v (.DY U U) (.move (.t U)) U (RL.v (.DY U U) (.leq (.g U (λ h=>h)) .c) U (RL.v (.neg U U) (.and (.g U (λ h=>h)) (.g U (λ h=>h))) U (Ab (.or (.t U) (.g U (λ h=>h))) U (Aj U U (Aa (Ac ?_)))))))))))))
       refine Af rfl ?_ ?_<;>intro hb7<;>try simp only[zb]at hb7
       ·refine Ad (Ae U U (Ae U U (Ab (.BR (.t U) underlying9) U (Ae U U ?_))))
        refine RL.D6 hS23 .none call47 (.cons (.t U) (.cons .c .nil)) (λ _=>(lI s _)) U (λ w30 hS31=>?_)
        refine Ab (.BR (.t U) underlying9) U (Ab (.sub (.t U) (.t U) (λ _=>by omega)) U (Ab (.QI (.t U) (.t U) underlying9 (λ _=>by omega)) U (Aj U U ?_)))
        refine Aa (CW.at [Y 4 (.pointer (some ⟨b2,0,none⟩)),Y 17 (str (Eng.sub s 0 ((len s)-(len (D9 s)))))] U (Ad (Ae U U ?_)))
        refine RL.D6 hS31 .none call80 (.cons (.t U) .nil) (λ _=>(lH (Eng.sub s 0 ((len s)-(len (D9 s)))) _ (hg.low hS31.low) (by omega))) U (λ w32 hS33=>?_)
        refine Ae U U (Ab (.ex (.t U) U) U (Ab (.ex (.t U) U) U (Ab (.ex (.t U) U) U ?_)))
        refine RL.alloc hS33 zeroValue46 U (λ w34 b35 hS36=>?_)
        refine RL.st hS36 (i:=0) U (.t U) (.t U) sizeOf46 U U U U U (λ w37 hS38=>?_)
        refine Aj U U (Aj U U ?_)
        refine Aa (CW.at [Y 4 (.pointer (some ⟨b2,0,none⟩)),Y 17 (str (Eng.sub s 0 ((len s)-(len (D9 s))))),Y 18 (.pointer (some ⟨b35,0,none⟩)),Y 19 (i64 ((BW (Eng.sub s 0 ((len s)-(len (D9 s))))).2.1)),Y 20 (i64 ((BW (Eng.sub s 0 ((len s)-(len (D9 s))))).2.2))] U (Ag (Ad (Ae U U (Ab (.neq (.t U) .c) U (Aa (Ac ?_)))))))
        refine Af rfl ?_ ?_<;>intro hb8<;>try simp only[zb]at hb8
        ·rw[hrn]at hb8
         refine Ad (Ab (.build (vs:=[]) (v:=(.agg #[(i64 0),(str []),(i64 0),(i64 0),(str []),(str []),(.bool false),(i64 0),(i64 0)])) .nil (λ w=>by kernel_rfl)) U (Ae U U (Ae U U ?_)))
         refine RL.st hS38 (i:=3) U (.t U) (.t U) sizeOf63 U U U U U (λ w39 hS40=>?_)
         refine Aj U U (Aj U U (Aa (Ac ?_)))
         refine Ah (hE.R3 U (.IA hS40 (i:=3) U U isAgg63 sizeOf63) (show RV _ _ _ (.tmp _) _ from rfl) (show RV _ _ _ (.tmp _) _ from rfl) ?_)
         replace hS40:St w M0 w39 M17 (.box b cs12 104::X13::Rs):=(hS40.erase 3 U).erase 0 U
         clear hE
         have hq:AB s=((⟨0,[],⟨0,0,[],[],false,0⟩,0⟩:Tk),(BW (Eng.sub s 0 ((len s)-(len (D9 s))))).2.1,(BW (Eng.sub s 0 ((len s)-(len (D9 s))))).2.2):=by
          unfold AB
          rw[if_neg (by first|assumption|omega|(simp_all;done)|grind),if_neg (by first|assumption|omega|(simp_all;done)|grind),if_neg (by first|assumption|omega|(simp_all;done)|grind),if_neg (by first|assumption|omega|(simp_all;done)|grind),if_neg (by first|assumption|omega|(simp_all;done)|grind),if_pos (by first|assumption|omega|(simp_all;done)|grind),if_pos (by first|assumption|omega|(simp_all;done)|grind)]
          try rfl
         exact⟨_,rfl,_,_,_,by rw[hq];rfl,hm14,hS40,hle19⟩
        ·rw[hrn]at hb8
         refine Ai (Ac (Ad (Ab (.UR (vs:=(JV ((BW (Eng.sub s 0 ((len s)-(len (D9 s))))).1) [])) hS38 AR (i:=0) U (.t U) isAgg46 sizeOf46 U U) U (Ab (.build (vs:=[(0,(i64 5)),(2,(H9 ((BW (Eng.sub s 0 ((len s)-(len (D9 s))))).1)))]) (v:=(.agg ⟨((i64 5)::((str [])::(JV ((BW (Eng.sub s 0 ((len s)-(len (D9 s))))).1) ((i64 0)::[]))))⟩)) (.cons .c (.cons (.t U) .nil)) (λ w=>by kernel_rfl)) U (Ae U U (Ab (.BR (.t U) underlying9) U ?_))))))
         refine RL.st hS38 (i:=3) U (.t U) (.t U) sizeOf63 U U U U U (λ w41 hS42=>?_)
         refine Aj U U (Ab (.assign .c) U (Aa (Ac ?_)))
         refine Ah (hE.R3 U (.IA hS42 (i:=3) U U isAgg63 sizeOf63) (show RV _ _ _ (.tmp _) _ from rfl) (show RV _ _ _ (.tmp _) _ from rfl) ?_)
         replace hS42:St w M0 w41 M17 (.box b cs12 104::X13::Rs):=(hS42.erase 3 U).erase 0 U
         clear hE
         have hq:AB s=((⟨5,[],(BW (Eng.sub s 0 ((len s)-(len (D9 s))))).1,0⟩:Tk),len (Eng.sub s 0 ((len s)-(len (D9 s)))),0):=by
          unfold AB
          rw[if_neg (by first|assumption|omega|(simp_all;done)|grind),if_neg (by first|assumption|omega|(simp_all;done)|grind),if_neg (by first|assumption|omega|(simp_all;done)|grind),if_neg (by first|assumption|omega|(simp_all;done)|grind),if_neg (by first|assumption|omega|(simp_all;done)|grind),if_pos (by first|assumption|omega|(simp_all;done)|grind),if_neg (by first|assumption|omega|(simp_all;done)|grind)]
          try rfl
         exact⟨_,rfl,_,_,_,by rw[hq];rfl,hm14,hS42,hle19⟩
       ·refine Ai (Ac (Ad (Ab (.build (vs:=[]) (v:=(.agg #[(i64 0),(str []),(i64 0),(i64 0),(str []),(str []),(.bool false),(i64 0),(i64 0)])) .nil (λ w=>by kernel_rfl)) U ?_)))
        refine RL.st hS23 (i:=2) U (.t U) (.t U) sizeOf63 U U U U U (λ w43 hS44=>?_)
        refine Ab (.assign .c) U (Ab (.assign .c) U (Aa (Ac ?_)))
        refine Ah (hE.R3 U (.IA hS44 (i:=2) U U isAgg63 sizeOf63) (show RV _ _ _ (.tmp _) _ from rfl) (show RV _ _ _ (.tmp _) _ from rfl) ?_)
        replace hS44:St w M0 w43 M17 (.box b cs12 104::X13::Rs):=hS44.erase 2 U
        clear hE
        have hq:AB s=((⟨0,[],⟨0,0,[],[],false,0⟩,0⟩:Tk),0,1):=by
         unfold AB
         rw[if_neg (by first|assumption|omega|(simp_all;done)|grind),if_neg (by first|assumption|omega|(simp_all;done)|grind),if_neg (by first|assumption|omega|(simp_all;done)|grind),if_neg (by first|assumption|omega|(simp_all;done)|grind),if_neg (by first|assumption|omega|(simp_all;done)|grind),if_neg (by first|assumption|omega|(simp_all;done)|grind)]
         try rfl
        exact⟨_,rfl,_,_,_,by rw[hq];rfl,hm14,hS44,hle19⟩
 ·refine Ai (Ac (Ag (Ad (Ae U U (Ae U U ?_)))))
  replace hS3:St w M0 w1 M (.box b cs 104::X:: .box b2 [(i64 0),(str []),(i64 0),(i64 0),(str []),(str []),(.bool false),(i64 0),(i64 0)] 63::Rs):=(hS3.front 2 U U).front 2 U U
  refine RL.DP call79 (.cons (.t U) (.cons (.t U) .nil)) (kV (Rs:=(.box b2 [(i64 0),(str []),(i64 0),(i64 0),(str []),(str []),(.bool false),(i64 0),(i64 0)] 63::Rs)) b cs X s hS3 (by assumption) hg (by omega) (by omega)) U ?_
  rintro v48 w49 ⟨cs45,X46,M50,rfl,hm47,hS51,hle52⟩
  replace hS51:St w M0 w49 M50 (.box b cs45 104::X46:: .box b2 [(i64 0),(str []),(i64 0),(i64 0),(str []),(str []),(.bool false),(i64 0),(i64 0)] 63::Rs):=hS51
  refine Aj U U ?_
  refine Aa (CW.at [Y 1 (str s),Y 4 (.pointer (some ⟨b2,0,none⟩)),Y 11 (str (BY s))] U (Ad (Ae U U (Ab (.N1 (.t U) .c) U (Aa (Ac ?_))))))
  refine Af rfl ?_ ?_<;>intro hb9<;>try simp only[zb]at hb9
  ·refine Ad (Ae U U (Ab (.build (vs:=[(0,(i64 1)),(1,(str (BY s)))]) (v:=(.agg #[(i64 1),(str (BY s)),(i64 0),(i64 0),(str []),(str []),(.bool false),(i64 0),(i64 0)])) (.cons .c (.cons (.t U) .nil)) (λ w=>by kernel_rfl)) U (Ae U U (Ab (.BR (.t U) underlying9) U ?_))))
   refine RL.st hS51 (i:=2) U (.t U) (.t U) sizeOf63 U U U U U (λ w53 hS54=>?_)
   refine Aj U U (Ab (.assign .c) U (Aa (Ac ?_)))
   refine Ah (hE.R3 U (.IA hS54 (i:=2) U U isAgg63 sizeOf63) (show RV _ _ _ (.tmp _) _ from rfl) (show RV _ _ _ (.tmp _) _ from rfl) ?_)
   replace hS54:St w M0 w53 M50 (.box b cs45 104::X46::Rs):=hS54.erase 2 U
   clear hE
   have hq:AB s=((⟨1,BY s,⟨0,0,[],[],false,0⟩,0⟩:Tk),len (BY s),0):=by
    unfold AB
    rw[if_neg (by first|assumption|omega|(simp_all;done)|grind),if_neg (by first|assumption|omega|(simp_all;done)|grind),if_pos (by first|assumption|omega|(simp_all;done)|grind)]
    try rfl
   exact⟨_,rfl,_,_,_,by rw[hq];rfl,hm47,hS54,hle52⟩
  ·refine Ai (Ac (Ag (Ad (Ae U U ?_))))
   refine RL.D6 hS51 .none call76 (.cons (.t U) .nil) (λ _=>(aU s _ (by omega))) U (λ w55 hS56=>?_)
   refine Aj U U ?_
   refine Aa (CW.at [Y 1 (str s),Y 4 (.pointer (some ⟨b2,0,none⟩)),Y 12 (str (AS s))] U (Ad (Ae U U (Ab (.N1 (.t U) .c) U (Aa (Ac ?_))))))
   refine Af rfl ?_ ?_<;>intro hb10<;>try simp only[zb]at hb10
   ·refine Ad (Ae U U (Ab (.build (vs:=[(0,(i64 2)),(1,(str (AS s)))]) (v:=(.agg #[(i64 2),(str (AS s)),(i64 0),(i64 0),(str []),(str []),(.bool false),(i64 0),(i64 0)])) (.cons .c (.cons (.t U) .nil)) (λ w=>by kernel_rfl)) U (Ae U U (Ab (.BR (.t U) underlying9) U ?_))))
    refine RL.st hS56 (i:=2) U (.t U) (.t U) sizeOf63 U U U U U (λ w57 hS58=>?_)
    refine Aj U U (Ab (.assign .c) U (Aa (Ac ?_)))
    refine Ah (hE.R3 U (.IA hS58 (i:=2) U U isAgg63 sizeOf63) (show RV _ _ _ (.tmp _) _ from rfl) (show RV _ _ _ (.tmp _) _ from rfl) ?_)
    replace hS58:St w M0 w57 M50 (.box b cs45 104::X46::Rs):=hS58.erase 2 U
    clear hE
    have hq:AB s=((⟨2,AS s,⟨0,0,[],[],false,0⟩,0⟩:Tk),len (AS s),0):=by
     unfold AB
     rw[if_neg (by first|assumption|omega|(simp_all;done)|grind),if_neg (by first|assumption|omega|(simp_all;done)|grind),if_neg (by first|assumption|omega|(simp_all;done)|grind),if_pos (by first|assumption|omega|(simp_all;done)|grind)]
     try rfl
    exact⟨_,rfl,_,_,_,by rw[hq];rfl,hm47,hS58,hle52⟩
   ·refine Ai (Ac (Ag (Ad (Ae U U (Ab (.C2 (.t U) .c underlying9 (λ _=>by omega)) U (Aj U U (Aa (Ac ?_))))))))
    refine Am (Ad (Ae U U (Ab (.eql (.t U) .c) U (Aj U U (Aa (Ac ?_))))))
    refine Af rfl ?_ ?_<;>intro hb11<;>try simp only[zb]at hb11
    ·refine Ad (Ae U U ?_)
     refine RL.D6 hS56 .none call78 (.cons (.t U) .nil) (λ _=>(WX s _ (hg.low hS56.low) (by first|omega|exact Int.le_trans (LU _ _).2 (by omega)))) U (λ w59 hS60=>?_)
     refine Ae U U (Ab (.ex (.t U) U) U (Ab (.ex (.t U) U) U (Ab (.ex (.t U) U) U (Aj U U (Aj U U ?_)))))
     refine Aj U U ?_
     refine Aa (CW.at [Y 4 (.pointer (some ⟨b2,0,none⟩)),Y 14 (str ((AH s).1)),Y 15 (i64 ((AH s).2.1)),Y 16 (i64 ((AH s).2.2))] U (Ad (Ae U U (Ab (.build (vs:=[(0,(i64 4)),(1,(str ((AH s).1)))]) (v:=(.agg #[(i64 4),(str ((AH s).1)),(i64 0),(i64 0),(str []),(str []),(.bool false),(i64 0),(i64 0)])) (.cons .c (.cons (.t U) .nil)) (λ w=>by kernel_rfl)) U (Ae U U (Ae U U ?_))))))
     refine RL.st hS60 (i:=2) U (.t U) (.t U) sizeOf63 U U U U U (λ w61 hS62=>?_)
     refine Aj U U (Aj U U (Aa (Ac ?_)))
     refine Ah (hE.R3 U (.IA hS62 (i:=2) U U isAgg63 sizeOf63) (show RV _ _ _ (.tmp _) _ from rfl) (show RV _ _ _ (.tmp _) _ from rfl) ?_)
     replace hS62:St w M0 w61 M50 (.box b cs45 104::X46::Rs):=hS62.erase 2 U
     clear hE
     have hq:AB s=((⟨4,(AH s).1,⟨0,0,[],[],false,0⟩,0⟩:Tk),(AH s).2.1,(AH s).2.2):=by
      unfold AB
      rw[if_neg (by first|assumption|omega|(simp_all;done)|grind),if_neg (by first|assumption|omega|(simp_all;done)|grind),if_neg (by first|assumption|omega|(simp_all;done)|grind),if_neg (by first|assumption|omega|(simp_all;done)|grind),if_pos (by first|assumption|omega|(simp_all;done)|grind)]
      try rfl
     exact⟨_,rfl,_,_,_,by rw[hq];rfl,hm47,hS62,hle52⟩
    ·refine Ad (Ae U U (Ab (.eql (.t U) .c) U (Ae U U (RL.v (.neg U U) (.move (.t U)) U (RL.v (.neg U U) (.geq (.g U (λ h=>h)) .c) U (RL.v (.neg U U) (.move (.g U (λ h=>h))) U (RL.v (.DY U U) (.move (.t U)) U (RL.v (.DY U U) (.leq (.g U (λ h=>h)) .c) U (RL.v (.neg U U) (.and (.g U (λ h=>h)) (.g U (λ h=>h))) U (Ab (.or (.t U) (.g U (λ h=>h))) U (Aj U U (Aa (Ac ?_)))))))))))))
     refine Af rfl ?_ ?_<;>intro hb12<;>try simp only[zb]at hb12
     ·refine Ad (Ae U U (Ae U U (Ab (.BR (.t U) underlying9) U (Ae U U ?_))))
      refine RL.D6 hS56 .none call47 (.cons (.t U) (.cons .c .nil)) (λ _=>(lI s _)) U (λ w63 hS64=>?_)
      refine Ab (.BR (.t U) underlying9) U (Ab (.sub (.t U) (.t U) (λ _=>by omega)) U (Ab (.QI (.t U) (.t U) underlying9 (λ _=>by omega)) U (Aj U U ?_)))
      refine Aa (CW.at [Y 4 (.pointer (some ⟨b2,0,none⟩)),Y 17 (str (Eng.sub s 0 ((len s)-(len (D9 s)))))] U (Ad (Ae U U ?_)))
      refine RL.D6 hS64 .none call80 (.cons (.t U) .nil) (λ _=>(lH (Eng.sub s 0 ((len s)-(len (D9 s)))) _ (hg.low hS64.low) (by omega))) U (λ w65 hS66=>?_)
      refine Ae U U (Ab (.ex (.t U) U) U (Ab (.ex (.t U) U) U (Ab (.ex (.t U) U) U ?_)))
      refine RL.alloc hS66 zeroValue46 U (λ w67 b68 hS69=>?_)
      refine RL.st hS69 (i:=0) U (.t U) (.t U) sizeOf46 U U U U U (λ w70 hS71=>?_)
      refine Aj U U (Aj U U ?_)
      refine Aa (CW.at [Y 4 (.pointer (some ⟨b2,0,none⟩)),Y 17 (str (Eng.sub s 0 ((len s)-(len (D9 s))))),Y 18 (.pointer (some ⟨b68,0,none⟩)),Y 19 (i64 ((BW (Eng.sub s 0 ((len s)-(len (D9 s))))).2.1)),Y 20 (i64 ((BW (Eng.sub s 0 ((len s)-(len (D9 s))))).2.2))] U (Ag (Ad (Ae U U (Ab (.neq (.t U) .c) U (Aa (Ac ?_)))))))
      refine Af rfl ?_ ?_<;>intro hb13<;>try simp only[zb]at hb13
      ·rw[hrn]at hb13
       refine Ad (Ab (.build (vs:=[]) (v:=(.agg #[(i64 0),(str []),(i64 0),(i64 0),(str []),(str []),(.bool false),(i64 0),(i64 0)])) .nil (λ w=>by kernel_rfl)) U (Ae U U (Ae U U ?_)))
       refine RL.st hS71 (i:=3) U (.t U) (.t U) sizeOf63 U U U U U (λ w72 hS73=>?_)
       refine Aj U U (Aj U U (Aa (Ac ?_)))
       refine Ah (hE.R3 U (.IA hS73 (i:=3) U U isAgg63 sizeOf63) (show RV _ _ _ (.tmp _) _ from rfl) (show RV _ _ _ (.tmp _) _ from rfl) ?_)
       replace hS73:St w M0 w72 M50 (.box b cs45 104::X46::Rs):=(hS73.erase 3 U).erase 0 U
       clear hE
       have hq:AB s=((⟨0,[],⟨0,0,[],[],false,0⟩,0⟩:Tk),(BW (Eng.sub s 0 ((len s)-(len (D9 s))))).2.1,(BW (Eng.sub s 0 ((len s)-(len (D9 s))))).2.2):=by
        unfold AB
        rw[if_neg (by first|assumption|omega|(simp_all;done)|grind),if_neg (by first|assumption|omega|(simp_all;done)|grind),if_neg (by first|assumption|omega|(simp_all;done)|grind),if_neg (by first|assumption|omega|(simp_all;done)|grind),if_neg (by first|assumption|omega|(simp_all;done)|grind),if_pos (by first|assumption|omega|(simp_all;done)|grind),if_pos (by first|assumption|omega|(simp_all;done)|grind)]
        try rfl
       exact⟨_,rfl,_,_,_,by rw[hq];rfl,hm47,hS73,hle52⟩
      ·rw[hrn]at hb13
       refine Ai (Ac (Ad (Ab (.UR (vs:=(JV ((BW (Eng.sub s 0 ((len s)-(len (D9 s))))).1) [])) hS71 AR (i:=0) U (.t U) isAgg46 sizeOf46 U U) U (Ab (.build (vs:=[(0,(i64 5)),(2,(H9 ((BW (Eng.sub s 0 ((len s)-(len (D9 s))))).1)))]) (v:=(.agg ⟨((i64 5)::((str [])::(JV ((BW (Eng.sub s 0 ((len s)-(len (D9 s))))).1) ((i64 0)::[]))))⟩)) (.cons .c (.cons (.t U) .nil)) (λ w=>by kernel_rfl)) U (Ae U U (Ab (.BR (.t U) underlying9) U ?_))))))
       refine RL.st hS71 (i:=3) U (.t U) (.t U) sizeOf63 U U U U U (λ w74 hS75=>?_)
       refine Aj U U (Ab (.assign .c) U (Aa (Ac ?_)))
       refine Ah (hE.R3 U (.IA hS75 (i:=3) U U isAgg63 sizeOf63) (show RV _ _ _ (.tmp _) _ from rfl) (show RV _ _ _ (.tmp _) _ from rfl) ?_)
       replace hS75:St w M0 w74 M50 (.box b cs45 104::X46::Rs):=(hS75.erase 3 U).erase 0 U
       clear hE
       have hq:AB s=((⟨5,[],(BW (Eng.sub s 0 ((len s)-(len (D9 s))))).1,0⟩:Tk),len (Eng.sub s 0 ((len s)-(len (D9 s)))),0):=by
        unfold AB
        rw[if_neg (by first|assumption|omega|(simp_all;done)|grind),if_neg (by first|assumption|omega|(simp_all;done)|grind),if_neg (by first|assumption|omega|(simp_all;done)|grind),if_neg (by first|assumption|omega|(simp_all;done)|grind),if_neg (by first|assumption|omega|(simp_all;done)|grind),if_pos (by first|assumption|omega|(simp_all;done)|grind),if_neg (by first|assumption|omega|(simp_all;done)|grind)]
        try rfl
       exact⟨_,rfl,_,_,_,by rw[hq];rfl,hm47,hS75,hle52⟩
     ·refine Ai (Ac (Ad (Ab (.build (vs:=[]) (v:=(.agg #[(i64 0),(str []),(i64 0),(i64 0),(str []),(str []),(.bool false),(i64 0),(i64 0)])) .nil (λ w=>by kernel_rfl)) U ?_)))
      refine RL.st hS56 (i:=2) U (.t U) (.t U) sizeOf63 U U U U U (λ w76 hS77=>?_)
      refine Ab (.assign .c) U (Ab (.assign .c) U (Aa (Ac ?_)))
      refine Ah (hE.R3 U (.IA hS77 (i:=2) U U isAgg63 sizeOf63) (show RV _ _ _ (.tmp _) _ from rfl) (show RV _ _ _ (.tmp _) _ from rfl) ?_)
      replace hS77:St w M0 w76 M50 (.box b cs45 104::X46::Rs):=hS77.erase 2 U
      clear hE
      have hq:AB s=((⟨0,[],⟨0,0,[],[],false,0⟩,0⟩:Tk),0,1):=by
       unfold AB
       rw[if_neg (by first|assumption|omega|(simp_all;done)|grind),if_neg (by first|assumption|omega|(simp_all;done)|grind),if_neg (by first|assumption|omega|(simp_all;done)|grind),if_neg (by first|assumption|omega|(simp_all;done)|grind),if_neg (by first|assumption|omega|(simp_all;done)|grind),if_neg (by first|assumption|omega|(simp_all;done)|grind)]
       try rfl
      exact⟨_,rfl,_,_,_,by rw[hq];rfl,hm47,hS77,hle52⟩
theorem AE1(M:Mem)(s:A1)(w:World)(hM:Sat w M)(hg:Gl w)(hb:len s<=1099511627776):
  Calls prog 22 [(str s)].toArray w λ e w'=> ∃v M',e= .returned v/\(∃u,v= .tuple #[u,i64 (C6 s).2.1,i64 (C6 s).2.2]/\Sl M' 9 (C6 s).1.length u ((C6 s).1.flatMap Tk.cells))/\Grow w M w' M':=by
 refine CW.BH func22 U ntmps22 (Nat.le_of_ble_eq_true U) λ Q hE=>?_
 have:=A4 s
 have hbt:=LW s 0 (Int.le_refl 0) this
 have hS:St w M w M []:=Ak hM
 refine An [0] (L':=[Y 0 (str s)]) ?_ U
 refine Ad ?_
 have hS1:=hS.KN 63 9
 replace hS1:St w M w M [.own 63 9 (.slice none 0 0) (([]:List Tk)).length ((([]:List Tk)).flatMap Tk.cells)]:=hS1
 refine Ab (.assign .c) U (Ab (.assign .c) U (Ab (.assign .c) U (Aa (Ac ?_))))
 refine Ad ?_
 refine RL.alloc hS1 zeroValue104 U (λ w2 b3 hS4=>(Aa (Ac ?_)))
 refine Ad ?_
 have hS5:=hS4.KN 63 9
 replace hS5:St w M w2 M [.own 63 9 (.slice none 0 0) (([]:List Tk)).length ((([]:List Tk)).flatMap Tk.cells),.box b3 [(.int .u32 0),(.int .i32 0),(.int .u32 0),(.map none)] 104,.own 63 9 (.slice none 0 0) (([]:List Tk)).length ((([]:List Tk)).flatMap Tk.cells)]:=hS5
 refine Ab (.assign .c) U (Aa (Ac ?_))
 refine Ad (Ae U U ?_)
 refine RL.D6 hS5 .none call47 (.cons (.t U) (.cons .c .nil)) (λ _=>(lJ s _)) U (λ w6 hS7=>?_)
 refine Aj U U ?_
 refine Aa (CW.at [Y 0 (str s),Y 5 (.pointer (some ⟨b3,0,none⟩)),Y 6 (.slice none 0 0),Y 7 (str (PB s))] U (Ag (Am ?_)))
 have hS8:=hS7.KN 9 1
 replace hS8:St w M w6 M [.own 9 1 (.slice none 0 0) (([]:List A1)).length ((([]:List A1)).flatMap AZ),.own 63 9 (.slice none 0 0) (([]:List Tk)).length ((([]:List Tk)).flatMap Tk.cells),.box b3 [(.int .u32 0),(.int .i32 0),(.int .u32 0),(.map none)] 104,.own 63 9 (.slice none 0 0) (([]:List Tk)).length ((([]:List Tk)).flatMap Tk.cells)]:=hS8
 refine CW.loop (σ:=Nat×Int×A1×List Tk×Value×List Value×HO×Mem) (λ(f,i,r,acc,va,cs,X,Ml)=>[Y 0 (str s),Y 5 (.pointer (some ⟨b3,0,none⟩)),Y 6 va,Y 7 (str r)]) (λ(f,i,r,acc,va,cs,X,Ml) wl=>St w M wl Ml [X,.own 63 9 va acc.length (acc.flatMap Tk.cells),.box b3 cs 104,.own 63 9 (.slice none 0 0) (([]:List Tk)).length ((([]:List Tk)).flatMap Tk.cells)]/\0<=i/\i<=len s/\r=A3 s i/\JZ f s i acc=C6 s/\(len s-i).toNat<=f/\len acc<=i/\MN Ml cs X) (λ(f,i,r,acc,va,cs,X,Ml)=>(len s-i).toNat) ((s.length,BL s 0,PB s,[],.slice none 0 0,[.int .u32 0,.int .i32 0,.int .u32 0,.map none],.own 9 1 (.slice none 0 0) 0 [],M)) [0,5,6,7] U ?_ ?_
 ·refine⟨hS8,?_⟩;exact⟨by omega,by omega,hY s 0 (Int.le_refl 0),rfl,by unfold len;omega,by rw[len_nil];omega,.inl ⟨rfl,rfl⟩⟩
 ·rintro⟨f,i,r,acc,va,cs,X,Ml⟩ wl ⟨hS9,h0,h1,hr,hF,hf,hacc,hmk⟩
  have hl:=CO s i h0 h1
  have hlr:len r=len s-i:=by rw[hr];exact hl
  have hat:len s-len r=i:=by omega
  have hdr: ∀n,0<=n->PB (A3 r n)=A3 s (BL s (i+n)):=λ n hn=>by rw[hr,IF s i n h0 hn,hY _ _ (by omega)]
  refine Ag (Ad (Ae U U (Ab (.N1 (.t U) .c) U (Aa (Ac ?_)))))
  refine Af rfl ?_ ?_<;>intro hb1<;>try simp only[zb]at hb1
  ·have hlt:i<len s:=by have:=G0 hb1;omega
   have htb:=kN (s:=r) (by omega)
   refine Ai (Ac (Am (Ad (Ae U U (Ab (.BR (.t U) underlying9) U (Ae U U (Ab (.BR (.t U) underlying9) U (Ab (.sub (.t U) (.t U) (λ _=>by omega)) U (Aj U U (Aa (Ac ?_)))))))))))
   refine Ad (Ae U U ?_)
   replace hS9:St w M wl Ml [.box b3 cs 104,X,.own 63 9 va acc.length (acc.flatMap Tk.cells),.own 63 9 (.slice none 0 0) (([]:List Tk)).length ((([]:List Tk)).flatMap Tk.cells)]:=(hS9.front 0 U U).front 2 U U
   refine RL.DP call48 (.cons (.t U) (.cons (.t U) .nil)) (AE0 (Rs:=[.own 63 9 va acc.length (acc.flatMap Tk.cells),.own 63 9 (.slice none 0 0) (([]:List Tk)).length ((([]:List Tk)).flatMap Tk.cells)]) b3 cs X r hS9 (by assumption) hg (by omega) (by omega)) U ?_
   rintro v13 w14 ⟨cs10,X11,M15,rfl,hm12,hS16,hle17⟩
   replace hS16:St w M w14 M15 [.box b3 cs10 104,X11,.own 63 9 va acc.length (acc.flatMap Tk.cells),.own 63 9 (.slice none 0 0) (([]:List Tk)).length ((([]:List Tk)).flatMap Tk.cells)]:=hS16
   refine Ae U U (Ab (.ex (.t U) U) U (Ab (.ex (.t U) U) U (Ab (.ex (.t U) U) U ?_)))
   refine RL.alloc hS16 zeroValue63 U (λ w18 b19 hS20=>?_)
   refine RL.st hS20 (i:=0) U (.t U) (.t U) sizeOf63 U U U U U (λ w21 hS22=>?_)
   refine Aj U U (Aj U U ?_)
   refine Aa (CW.at [Y 0 (str s),Y 5 (.pointer (some ⟨b3,0,none⟩)),Y 6 va,Y 7 (str r),Y 8 (i64 ((len s)-(len r))),Y 9 (.pointer (some ⟨b19,0,none⟩)),Y 10 (i64 ((AB r).2.1)),Y 11 (i64 ((AB r).2.2))] U (Ag (Ad (Ae U U (Ab (.neq (.t U) .c) U (Aa (Ac ?_)))))))
   refine Af rfl ?_ ?_<;>intro hb2<;>try simp only[zb]at hb2
   ·refine Ad (Ae U U (Ae U U (Ab (.add (.t U) (.t U) (λ _=>by omega)) U (Ae U U ?_))))
    have hS23:=hS22.KN 63 9
    replace hS23:St w M w21 M15 [.own 63 9 (.slice none 0 0) (([]:List Tk)).length ((([]:List Tk)).flatMap Tk.cells),.box b19 (sU ((AB r).1) []) 63,.box b3 cs10 104,X11,.own 63 9 va acc.length (acc.flatMap Tk.cells),.own 63 9 (.slice none 0 0) (([]:List Tk)).length ((([]:List Tk)).flatMap Tk.cells)]:=hS23
    refine Ab (.assign .c) U (Aj U U (Aj U U (Aa (Ac ?_))))
    refine Ah (hE.r3 U U U U ?_)
    have hq:C6 s=([],len s-len r+(AB r).2.1,(AB r).2.2):=by rw[<-hF,VG hf hlt,<-hr,if_pos (by simpa using hb2),hat]
    exact⟨_,_,rfl,⟨_,by rw[hq],by rw[hq];exact Sl.nil _ 9⟩,hS23.done⟩
   ·have hn1:=htb.2.2.1 hb2
    have hbb:=LW s (i+(AB r).2.1) (by omega) (by omega)
    refine Ai (Ac (Ad (Ae U U (Ab (.BI (q:=⟨b19,8,none⟩) (.t U) (λ w=>by kernel_rfl)) U ?_))))
    refine RL.st hS22 (i:=0) U (.t U) (.t U) sizeOf3 U U U U U (λ w24 hS25=>(Aa (Ac ?_)))
    refine Ad (Ae U U (Ab (.UR (vs:=((i64 (((AB r).1).kind))::((str (((AB r).1).s))::(JV (((AB r).1).c) ((i64 ((len s)-(len r)))::[]))))) hS25 AR (i:=0) U (.t U) isAgg63 sizeOf63 U U) U ?_))
    refine RL.buildSlice (n:=1) (sz:=9) (e:=63) (vs:=[(0,(.agg ⟨((i64 (((AB r).1).kind))::((str (((AB r).1).s))::(JV (((AB r).1).c) ((i64 ((len s)-(len r)))::[]))))⟩))]) (cs:=[(i64 (((AB r).1).kind)),(str (((AB r).1).s)),(i64 (((AB r).1).c.kind)),(i64 (((AB r).1).c.many)),(str (((AB r).1).c.name)),(str (((AB r).1).c.s)),(.bool (((AB r).1).c.neg)),(i64 (((AB r).1).c.e)),(i64 ((len s)-(len r)))]) hS25 (.cons (.t U) .nil) U U (λ w=>by kernel_rfl) U (λ v26 w27 M28 hS29 hle30=>?_)
    replace hS29:St w M w27 M28 [.own 63 9 v26 (([(⟨((AB r).1).kind,((AB r).1).s,((AB r).1).c,(len s)-(len r)⟩:Tk)]:List Tk)).length ((([(⟨((AB r).1).kind,((AB r).1).s,((AB r).1).c,(len s)-(len r)⟩:Tk)]:List Tk)).flatMap Tk.cells),.box b19 ((i64 (((AB r).1).kind))::((str (((AB r).1).s))::(JV (((AB r).1).c) ((i64 ((len s)-(len r)))::[])))) 63,.box b3 cs10 104,X11,.own 63 9 va acc.length (acc.flatMap Tk.cells),.own 63 9 (.slice none 0 0) (([]:List Tk)).length ((([]:List Tk)).flatMap Tk.cells)]:=hS29
    refine RL.SH (f:=Tk.cells) (l:=acc) (y:=(⟨((AB r).1).kind,((AB r).1).s,((AB r).1).c,(len s)-(len r)⟩:Tk)) hS29 (k:=4) U (.t U) (.t U) (hS29.sl (i:=0) U) underlying52 type63 U U U Tk.cells_one (by':=96) U U (by omega) U (Hs':=λ v'=>[.own 63 9 v26 (([(⟨((AB r).1).kind,((AB r).1).s,((AB r).1).c,(len s)-(len r)⟩:Tk)]:List Tk)).length ((([(⟨((AB r).1).kind,((AB r).1).s,((AB r).1).c,(len s)-(len r)⟩:Tk)]:List Tk)).flatMap Tk.cells),.box b19 ((i64 (((AB r).1).kind))::((str (((AB r).1).s))::(JV (((AB r).1).c) ((i64 ((len s)-(len r)))::[])))) 63,.box b3 cs10 104,X11,.own 63 9 v' (acc++[(⟨((AB r).1).kind,((AB r).1).s,((AB r).1).c,(len s)-(len r)⟩:Tk)]).length ((acc++[(⟨((AB r).1).kind,((AB r).1).s,((AB r).1).c,(len s)-(len r)⟩:Tk)]).flatMap Tk.cells),.own 63 9 (.slice none 0 0) (([]:List Tk)).length ((([]:List Tk)).flatMap Tk.cells)]) (λ _=>rfl) (λ v31 w32 M33 hS34 hle35=>?_)
    replace hS34:=hS34.erase 0 U
    refine Aj U U (Aa (Ac ?_))
    refine CW.region (Ae U U (Ae U U (Ab (.JS (.t U) (.t U) underlying9 (λ _=>by omega)) U ?_)))
    refine RL.D6 hS34 .none call47 (.cons (.t U) (.cons .c .nil)) (λ _=>(lJ (Eng.A3 r ((AB r).2.1)) _)) U (λ w36 hS37=>?_)
    refine Aj U U ?_
    replace hS37:St w M w36 M33 [.own 63 9 (.slice none 0 0) (([]:List Tk)).length ((([]:List Tk)).flatMap Tk.cells),.box b3 cs10 104,X11,.own 63 9 v31 (acc++[(⟨((AB r).1).kind,((AB r).1).s,((AB r).1).c,(len s)-(len r)⟩:Tk)]).length ((acc++[(⟨((AB r).1).kind,((AB r).1).s,((AB r).1).c,(len s)-(len r)⟩:Tk)]).flatMap Tk.cells)]:=(hS37.erase 0 U).front 3 U U
    replace hS37:St w M w36 M33 [.own 63 9 v31 (acc++[(⟨((AB r).1).kind,((AB r).1).s,((AB r).1).c,(len s)-(len r)⟩:Tk)]).length ((acc++[(⟨((AB r).1).kind,((AB r).1).s,((AB r).1).c,(len s)-(len r)⟩:Tk)]).flatMap Tk.cells),.box b3 cs10 104,.own 63 9 (.slice none 0 0) (([]:List Tk)).length ((([]:List Tk)).flatMap Tk.cells),X11]:=(hS37.front 1 U U).front 3 U U
    replace hS37:St w M w36 M33 [X11,.own 63 9 v31 (acc++[(⟨((AB r).1).kind,((AB r).1).s,((AB r).1).c,(len s)-(len r)⟩:Tk)]).length ((acc++[(⟨((AB r).1).kind,((AB r).1).s,((AB r).1).c,(len s)-(len r)⟩:Tk)]).flatMap Tk.cells),.box b3 cs10 104,.own 63 9 (.slice none 0 0) (([]:List Tk)).length ((([]:List Tk)).flatMap Tk.cells)]:=hS37.front 3 U U
    refine Aa λ a hs=>Exists.intro ((f-1,BL s (i+(AB r).2.1),PB (Eng.A3 r ((AB r).2.1)),acc++[(⟨((AB r).1).kind,((AB r).1).s,((AB r).1).c,(len s)-(len r)⟩:Tk)],v31,cs10,X11,M33)) ⟨hs.BC [0,5,6,7],?_,?_⟩
    ·refine⟨hS37,?_⟩
     exact⟨by omega,by omega,hdr _ (by omega),by rw[<-hF,VG hf hlt,<-hr,if_neg (by simpa using hb2),hat],by omega,by rw[A5,A6,len_nil];omega,MN.mono hm12 ((hle30.trans hle35))⟩
    ·show Int.toNat _<Int.toNat _;omega
  ·have hge: ¬i<len s:=by rw[hb1,len_nil]at hlr;omega
   refine CW.exit (CW.at [Y 0 (str s),Y 6 va] U ?_)
   refine Ad (Ae U U (Ae U U (Ab (.BR (.t U) underlying9) U (Ab (.build (vs:=[(0,(i64 6)),(3,(i64 (len s)))]) (v:=(.agg #[(i64 6),(str []),(i64 0),(i64 0),(str []),(str []),(.bool false),(i64 0),(i64 (len s))])) (.cons .c (.cons (.t U) .nil)) (λ w=>by kernel_rfl)) U ?_))))
   refine RL.buildSlice (n:=1) (sz:=9) (e:=63) (vs:=[(0,(.agg #[(i64 6),(str []),(i64 0),(i64 0),(str []),(str []),(.bool false),(i64 0),(i64 (len s))]))]) (cs:=[(i64 6),(str []),(i64 0),(i64 0),(str []),(str []),(.bool false),(i64 0),(i64 (len s))]) hS9 (.cons (.t U) .nil) U U (λ w=>by kernel_rfl) U (λ v38 w39 M40 hS41 hle42=>?_)
   replace hS41:St w M w39 M40 [.own 63 9 v38 (([(⟨6,[],⟨0,0,[],[],false,0⟩,len s⟩:Tk)]:List Tk)).length ((([(⟨6,[],⟨0,0,[],[],false,0⟩,len s⟩:Tk)]:List Tk)).flatMap Tk.cells),X,.own 63 9 va acc.length (acc.flatMap Tk.cells),.box b3 cs 104,.own 63 9 (.slice none 0 0) (([]:List Tk)).length ((([]:List Tk)).flatMap Tk.cells)]:=hS41
   refine RL.SH (f:=Tk.cells) (l:=acc) (y:=(⟨6,[],⟨0,0,[],[],false,0⟩,len s⟩:Tk)) hS41 (k:=2) U (.t U) (.t U) (hS41.sl (i:=0) U) underlying52 type63 U U U Tk.cells_one (by':=96) U U (by omega) U (Hs':=λ v'=>[.own 63 9 v38 (([(⟨6,[],⟨0,0,[],[],false,0⟩,len s⟩:Tk)]:List Tk)).length ((([(⟨6,[],⟨0,0,[],[],false,0⟩,len s⟩:Tk)]:List Tk)).flatMap Tk.cells),X,.own 63 9 v' (acc++[(⟨6,[],⟨0,0,[],[],false,0⟩,len s⟩:Tk)]).length ((acc++[(⟨6,[],⟨0,0,[],[],false,0⟩,len s⟩:Tk)]).flatMap Tk.cells),.box b3 cs 104,.own 63 9 (.slice none 0 0) (([]:List Tk)).length ((([]:List Tk)).flatMap Tk.cells)]) (λ _=>rfl) (λ v43 w44 M45 hS46 hle47=>?_)
   replace hS46:=hS46.erase 0 U
   refine Aj U U (Ab (.assign .c) U (Ab (.assign .c) U (Aa (Ac ?_))))
   refine Ah (hE.r3 U U U U ?_)
   have hq:C6 s=(acc++[GJ s],0,0):=by rw[<-hF,ZA hge]
   exact⟨_,_,rfl,⟨_,by rw[hq],by rw[hq];exact hS46.sl (i:=1) U⟩,hS46.done⟩
theorem AE2(c:Int)(w:World):Calls prog 299 [.int .u8 c].toArray w λ e w'=>e= .returned (.bool (E9 c))/\Ext w w':=by
 refine AU AP func299 U ntmps299 [] [] [.v (.int .u8 c)] U (G7 w) AA (λ B hB=>?_) U
 exact A9 hB U U (A0 U) U U (A0 U) λ w M hX=>⟨rfl,hX.st.low⟩
theorem AE3(c:Int)(w:World):Calls prog 300 [.int .u8 c].toArray w λ e w'=>e= .returned (.bool (BG c))/\Ext w w':=by
 refine AU AP func300 U ntmps300 [] [] [.v (.int .u8 c)] U (G7 w) AA (λ B hB=>?_) U
 exact A9 hB U U (A0 U) U U (A0 U) λ w M hX=>⟨rfl,hX.st.low⟩
theorem lK(s:A1)(w:World)(hb:len s<=1099511627776):Calls prog 280 [str s].toArray w λ e w'=>e= .returned (i64 (CE s 0))/\Ext w w':=by
 have hln:=A4 s
 refine AU AP func280 U ntmps280 [] [] [.v (str s)] U (G7 w) AA (λ B hB=>?_) U
 refine CD (σ:=Int) (λ n=>⟨[],[],[Z 0 (.v (str s)),Z 3 (I n)]⟩) (λ n=>0<=n/\n<=len s/\CE s n=CE s 0) (λ n=>(len s-n).toNat) 0 U (A0 U) U U ⟨by omega,hln,rfl⟩ ?_
 rintro n ⟨h0,h1,hw⟩
 refine AY U (A0 U) (by simp only[zb]<;>omega) call299 U U (A0 U) (λ _ w M hX=>AE2 (A2 s n) w) U ?_
 refine AY U (A0 U) (by simp only[zb]<;>omega) call300 U U (A0 U) (λ _ w M hX=>AE3 (A2 s n) w) U ?_
 refine A7 U (A0 U) (by simp only[zb]<;>omega) (λ hb1=>?_) (λ hb1=>?_)<;>simp only[zb]at hb1
 ·have hwr:BS (A2 s n) (n==0)=true:=by unfold BS;simp only[zb];exact hb1.2.imp id λ q=>⟨by omega,q.2⟩
  exact C7 (n+1) U (A0 U) (by omega) U ⟨by omega,by omega,by rw[QN h0 hb1.1 hwr,hw]⟩ (by show Int.toNat _<Int.toNat _;omega)
 ·have e:CE s n=n:=by
   by_cases hlt:n<len s
   ·refine QO h0 hlt ?_
    have h2:=hb1.resolve_left (by omega)
    unfold BS
    simp only[zb]
    refine⟨h2.1,?_⟩
    rcases h2.2 with h3|h3
    ·exact .inl (by omega)
    ·exact .inr h3
   ·exact QP hlt
  exact A9 hB U U (A0 U) U U (A0 U) λ w M hX=>⟨by rw[<-hw,e];rfl,hX.st.low⟩
theorem AE4(s:A1):OD s=(s != []&&CE s 0==len s):=by
 unfold OD
 congr 1
 have h:=LY (s:=s) (i:=0) (by omega) (A4 s)
 rw[Bool.eq_iff_iff,beq_iff_eq,beq_iff_eq]
 constructor
 ·intro e;rw[<-LZ,e]
 ·intro e
  unfold AS
  rw[e]
  unfold Eng.sub len;simp
theorem lL(s:A1)(w:World)(hb:len s<=1099511627776):Calls prog 254 [str s].toArray w λ e w'=>e= .returned (.bool (OD s))/\Ext w w':=by
 refine AU AP func254 U ntmps254 [] [] [.v (str s)] U (G7 w) AA (λ B hB=>?_) U
 refine AY U (A0 U) U call280 U U (A0 U) (λ _ w M hX=>lK s w hb) U ?_
 exact A9 hB U U (A0 U) (by simp only[zb]<;>omega) U (A0 U) λ w M hX=>⟨by rw[AE4];rfl,hX.st.low⟩
abbrev lM(b:Nat)(a u:Value)(o:A1):List HO:=[.box b [a,u] 163,.own 5 1 u (ints o).length ((ints o).flatMap AQ)]
abbrev WY(b:Nat)(a u:Value)(o:A1):List (Nat×HX):=[(1,.box b [.v a,.v u] 163),(2,.ho (.own 5 1 u (ints o).length ((ints o).flatMap AQ)))]
theorem bV{w0 wv:World}{M0 M:Mem}{Rs:List HO}(b:Nat)(a u:Value)(o s:A1)(hS:St w0 M0 wv M (lM b a u o++Rs))(ha:a= .pointer none\/a=CC b)(ho:len o<=35184372088832)(hs:len s<=35184372088832):
   Calls prog 218 [.pointer (some ⟨b,0,none⟩),str s].toArray wv (DT w0 M0 M Rs (λ _:Value=>.tuple #[i64 (len s),.nilIface]) (λ _=>True) (λ _=>[]) λ u'=>lM b (CC b) u' (o++s)):=
 (bQ b a (ints o) s u hS ha (by rw[IC];exact ho) hs).mono λ e w' ⟨x,he,v',M',hx,hS',hle⟩=>by
  subst hx
  rw[<-QQ]at hS'
  exact⟨v',M',he,trivial,hle,hS',AA⟩
theorem Sp.B4 (x:Sp):x.cells.length=3:=rfl
theorem lN{x:Sp}(h1:len x.name<=1048576)(h2:x.part=true->0<=x.n/\x.n<=1000000):0<=len (FE AE x)/\len (FE AE x)<=6291463:=by
 refine⟨A4 _,?_⟩
 unfold FE
 have hn:=A4 x.name
 split
 ·rename_i hp
  have h3:=h2 hp
  have h4:=P7 x.n
  rw[A5,A5,A6,len_nil,A6,len_nil];omega
 ·split
  ·rw[A5,A6,len_nil];omega
  ·have h3:=kP x.name
   rw[A5,A6,len_nil];omega
abbrev GC(p:List Sp):A1:=(p.map (FE AE)).flatten
theorem lO(p:List Sp){k:Int}(h0:0<=k)(h1:k<len p):GC (Eng.sub p 0 (k+1))=GC (Eng.sub p 0 k)++FE AE (at' p k):=by
 unfold GC;rw[NJ h0 h1];simp
theorem WZ{p:List Sp}(h:L8 p): ∀k:Nat,(k:Int)<=len p->len (GC (Eng.sub p 0 (k:Int)))<=k*6291463
 |0,_=>by show len (GC (Eng.sub p 0 0))<=_;unfold GC Eng.sub;simp[len]
 |k+1,hk=>by
  have ih:=WZ h k (by omega)
  rw[show((k+1:Nat):Int)=(k:Int)+1 by omega,lO p (by omega) (by omega),A5]
  obtain⟨q1,q2⟩:=h.2 _ (at_mem (k:=(k:Int)) (by omega) (by omega))
  have:=lN q1 q2
  omega
theorem lP{w:World}{M:Mem}(v:Value)(p:List Sp)(hM:Sat w M)(hg:Gl w)(hl:Sl M 3 p.length v (p.flatMap Sp.cells))(hp:L8 p):
    Calls prog 224 [v].toArray w λ e w'=>e= .returned (str (GC p))/\Ext w w':=by
 have hln:=A4 p
 have h20:=hp.1
 refine AU (Hr:=[]) AP func224 U ntmps224 [(0,kn v 3 p Sp.cells)] [] [.sl 0 v] U (Ak hM) (fc 0 hl Sp.B4 AA) (λ B hB=>?_) U
 refine CU 1 U (A0 U) U zeroValue163 U λ bb=>?_
 refine yA 2 5 1 AQ YV ?_
 refine CD (σ:=Int×Value×Value) (λ(k,a,u)=>⟨[(0,kn v 3 p Sp.cells)],WY bb a u (GC (Eng.sub p 0 k)),[Z 3 (.bx 1 bb 0),Z 6 (.sl 0 v),Z 7 (I (len p)),Z 8 (I k)]⟩) (λ(k,a,u)=>0<=k/\k<=len p/\(a= .pointer none\/a=CC bb)) (λ(k,a,u)=>(len p-k).toNat) (0,.pointer none,.slice none 0 0) U (A0 U) U U ⟨by omega,hln,.inl U⟩ ?_
 rintro⟨k,a,u⟩ ⟨h0,h1,ha⟩
 have htl:=WZ hp k.toNat (by omega)
 rw[show((k.toNat:Nat):Int)=k by omega]at htl
 refine A7 U (A0 U) U (λ hb1=>?_) (λ hb1=>?_)<;>simp only[zb]at hb1
 ·obtain⟨q1,q2⟩:=hp.2 _ (at_mem h0 hb1)
  have hsl:=lN q1 q2
  have hnx:=lO p h0 hb1
  have hnn:=A4 (at' p k).name
  refine CU 5 U (A0 U) (by omega) zeroValue68 U λ b5=>?_
  refine A7 U (A0 U) U (λ hb2=>?_) (λ hb2=>?_)
  ·have e:FE AE (at' p k)=([91]++Lib.itoa (at' p k).n)++[93]:=by unfold FE;rw[if_pos hb2]
   have hit:=P7 (at' p k).n
   have hq:=q2 hb2
   refine AY U (A0 U) U call245 U U (A0 U) (λ _ w M hX=>Z1 _ w (hg.low hX.st.low) (by omega) (by omega)) U ?_
   refine BQ [1,2] (λ _=>.tu [I (len (FE AE (at' p k))),.v .nilIface]) [] (λ u'=>WY bb (CC bb) u' (GC (Eng.sub p 0 k)++FE AE (at' p k))) U (A0 U) (by simp only[zb,A5,A6,len_nil]<;>omega) U call218 U U (A0 U) U (λ w M hS hF=>by rw[e];exact bV bb a u _ _ hS ha (by omega) (by rw[<-e];omega)) (λ _=>rfl) (λ _=>rfl) λ u' _=>?_
   exact C7 (k+1,CC bb,u') U (A0 U) (by omega) (by dsimp only;rw[hnx];rfl) ⟨by omega,by omega,.inr U⟩ (by show Int.toNat _<Int.toNat _;omega)
  ·refine AY U (A0 U) U call254 U U (A0 U) (λ _ w M hX=>lL (at' p k).name w (by omega)) U ?_
   refine A7 U (A0 U) U (λ hb3=>?_) (λ hb3=>?_)
   ·have e:FE AE (at' p k)=[46]++(at' p k).name:=by unfold FE;rw[if_neg (by rw[hb2];decide),if_pos hb3]
    refine BQ [1,2] (λ _=>.tu [I (len (FE AE (at' p k))),.v .nilIface]) [] (λ u'=>WY bb (CC bb) u' (GC (Eng.sub p 0 k)++FE AE (at' p k))) U (A0 U) (by simp only[zb,A5,A6,len_nil]<;>omega) U call218 U U (A0 U) U (λ w M hS hF=>by rw[e];exact bV bb a u _ _ hS ha (by omega) (by rw[<-e];omega)) (λ _=>rfl) (λ _=>rfl) λ u' _=>?_
    exact C7 (k+1,CC bb,u') U (A0 U) (by omega) (by dsimp only;rw[hnx];rfl) ⟨by omega,by omega,.inr U⟩ (by show Int.toNat _<Int.toNat _;omega)
   ·have e:FE AE (at' p k)=[46]++AE (at' p k).name:=by unfold FE;rw[if_neg (by rw[hb2];decide),if_neg (by rw[hb3];decide)]
    have hql:=kP (at' p k).name
    refine AY U (A0 U) U call255 U U (A0 U) (λ _ w M hX=>lB (at' p k).name w (hg.low hX.st.low) (by omega)) U ?_
    refine BQ [1,2] (λ _=>.tu [I (len (FE AE (at' p k))),.v .nilIface]) [] (λ u'=>WY bb (CC bb) u' (GC (Eng.sub p 0 k)++FE AE (at' p k))) U (A0 U) (by simp only[zb,A5,A6,len_nil]<;>omega) U call218 U U (A0 U) U (λ w M hS hF=>by rw[e];exact bV bb a u _ _ hS ha (by omega) (by rw[<-e];omega)) (λ _=>rfl) (λ _=>rfl) λ u' _=>?_
    exact C7 (k+1,CC bb,u') U (A0 U) (by omega) (by dsimp only;rw[hnx];rfl) ⟨by omega,by omega,.inr U⟩ (by show Int.toNat _<Int.toNat _;omega)
 ·have hke:k=len p:=by omega
  subst hke
  rw[L7 (Int.le_refl _)]at*
  refine yC hM U U U (A0 U) U call110 U U (A0 U) (λ w M hX=>(bS bb a u (GC p) (ints (GC p)) hX.st ha U).mono λ e w' ⟨x,h1,h2,h3⟩=>⟨by rw[h1,h2],h3⟩) U ?_
  exact A9 hB U U (A0 U) U U (A0 U) λ w M' hX=>⟨rfl,hX.st.low⟩
theorem lQ(p:List Sp):FP AE p=if p=[]\/(at' p 0).part=true then [46]++GC p else GC p:=by
 unfold FP;split<;>simp
theorem AE5{w:World}{M:Mem}(v:Value)(p:List Sp)(hM:Sat w M)(hg:Gl w)(hl:Sl M 3 p.length v (p.flatMap Sp.cells))(hp:L8 p):
    Calls prog 175 [v].toArray w λ e w'=>e= .returned (str (FP AE p))/\Ext w w':=by
 have hln:=A4 p
 have h20:=hp.1
 have htl:=WZ hp p.length (by show len p<=_;omega)
 rw[show((p.length:Nat):Int)=len p from rfl,L7 (Int.le_refl _)]at htl
 refine AU (Hr:=[]) AP func175 U ntmps175 [(0,kn v 3 p Sp.cells)] [] [.sl 0 v] U (Ak hM) (fc 0 hl Sp.B4 AA) (λ B hB=>?_) U
 refine A7 U (A0 U) (by simp only[zb]<;>omega) (λ hb1=>?_) (λ hb1=>?_)<;>simp only[zb]at hb1
 ·have e:FP AE p=[46]++GC p:=by
   rw[lQ,if_pos (hb1.imp (λ q=>by cases p with|nil=>rfl|cons x r=>rw[A6]at q;have:=A4 r;omega) id)]
  rw[e]at hB
  refine AY U (A0 U) U call224 U U (A0 U) (λ _ w M hX=>lP v p hX.st.sat (hg.low hX.st.low) (hX.sl 0 U) hp) U ?_
  exact A9 hB U U (A0 U) ⟨(by show(1:Int)+len (GC p)<=9223372036854775807;omega),rfl⟩ U (A0 U) λ w M' hX=>⟨rfl,hX.st.low⟩
 ·have e:FP AE p=GC p:=by
   rw[lQ,if_neg (λ q=>?_)]
   rcases q with q|q
   · rw[q]at hb1;exact hb1.1 U
   · rw[q]at hb1;cases hb1.2
  rw[e]at hB
  refine AY U (A0 U) U call224 U U (A0 U) (λ _ w M hX=>lP v p hX.st.sat (hg.low hX.st.low) (hX.sl 0 U) hp) U ?_
  exact A9 hB U U (A0 U) U U (A0 U) λ w M' hX=>⟨rfl,hX.st.low⟩
def NL(l:List A1)(x:A1):Int:=if x∈l then(l.idxOf x:Nat)else-1
theorem lR{x:A1}: ∀ {l:List A1} {n:Nat} (h:n<l.length),l[n]=x->l.idxOf x<=n
 |[],n,h,_=>absurd h (Nat.not_lt_zero _)
 |a::l,0,h,hx=>by
  have:a=x:=hx
  rw[List.idxOf_cons,this];simp
 |a::l,n+1,h,hx=>by
  have:=lR (l:=l) (n:=n) (by simpa using h) (by simpa using hx)
  rw[List.idxOf_cons]
  cases (a==x)<;>simp<;>omega
theorem AE6{l:List A1}{x:A1}{k:Int}(h0:0<=k)(h1:k<len l)(ha: ∀j,0<=j->j<k->at' l j≠x)(hx:at' l k=x):NL l x=k:=by
 have hm:x∈l:=hx▸at_mem h0 h1
 obtain⟨hlt,e⟩:=EU l h0 h1
 unfold NL
 rw[if_pos hm]
 have hi:l.idxOf x<l.length:=List.idxOf_lt_length_iff.2 hm
 have hle:l.idxOf x<=k.toNat:=lR hlt (by rw[<-e];exact hx)
 have hge: ¬l.idxOf x<k.toNat:=λ h=>by
  obtain⟨h2,e2⟩:=EU l (i:=(l.idxOf x:Int)) (by omega) (by unfold len;omega)
  refine ha (l.idxOf x) (by omega) (by omega) ?_
  rw[e2];simp
 omega
theorem AE7{l:List A1}{x:A1}(ha: ∀j,0<=j->j<len l->at' l j≠x):NL l x= -1:=by
 unfold NL
 rw[if_neg λ hm=>?_]
 obtain⟨i,h0,h1,e⟩:=yD hm
 exact ha i h0 h1 e
theorem AE8{w:World}{M:Mem}(v:Value)(l:List A1)(x:A1)(hM:Sat w M)(hl:Sl M 1 l.length v (l.flatMap AZ))(hb:len l<=1099511627776):
    Calls prog 226 [v,str x].toArray w λ e w'=>e= .returned (i64 (NL l x))/\Ext w w':=by
 have hln:=A4 l
 refine AU (Hr:=[]) AP func226 U ntmps226 [(0,kn v 1 l AZ)] [] [.sl 0 v,.v (str x)] U (Ak hM) (fc 0 hl DZ AA) (λ B hB=>?_) U
 refine CD (σ:=Int) (λ k=>⟨[(0,kn v 1 l AZ)],[],[Z 0 (.sl 0 v),Z 1 (.v (str x)),Z 7 (I (len l)),Z 8 (I k)]⟩) (λ k=>0<=k/\k<=len l/\ ∀j,0<=j->j<k->at' l j≠x) (λ k=>(len l-k).toNat) 0 U (A0 U) U U ⟨by omega,hln,λ j h0 h1=>by omega⟩ ?_
 rintro k ⟨h0,h1,ha⟩
 refine A7 U (A0 U) U (λ hb1=>?_) (λ hb1=>?_)<;>simp only[zb]at hb1
 ·refine A7 U (A0 U) (by omega) (λ hb2=>?_) (λ hb2=>?_)<;>simp only[zb]at hb2
  ·exact A9 hB U U (A0 U) U U (A0 U) λ w M hX=>⟨by rw[AE6 h0 hb1 ha hb2.symm];rfl,hX.st.low⟩
  ·exact C7 (k+1) U (A0 U) (by omega) U ⟨by omega,by omega,λ j q0 q1=>by
    by_cases hj:j=k
    ·subst hj;exact λ q=>hb2 q.symm
    ·exact ha j q0 (by omega)⟩ (by show Int.toNat _<Int.toNat _;omega)
 ·exact A9 hB U U (A0 U) U U (A0 U) λ w M hX=>⟨by rw[AE7 (λ j q0 q1=>ha j q0 (by omega))];rfl,hX.st.low⟩
theorem Sp.cells_one (x:Sp): ∀u∈x.cells,u.oneCell'=true:=by intro u hu;simp[Sp.cells]at hu;rcases hu with rfl|rfl|rfl<;>rfl
abbrev TX(v:Value)(xs:List Sp):HO:=.own 68 3 v xs.length (xs.flatMap Sp.cells)
structure HI (w0 wv:World) (M0 M:Mem) (Rs:List HO) (b:Nat) (v:Value) (l:List Tk) (i d:Int):Prop where
 st:St w0 M0 wv M (FF b v i d::Rs)
 sl:Sl M 9 l.length v (l.flatMap Tk.cells)
 g:Gl w0
 ok:EO l
 h0:0<=i
 h1:i<len l
abbrev TY{α:Type}(w0:World)(M0 M:Mem)(Rs:List HO)(b:Nat)(v:Value)(d:Int)(r:PR α)(u:α->Value):Ending->World->Prop:=
 OM w0 M0 M Rs 82 r λ x j=>DT w0 M0 M Rs (λ _:Unit=>u x) (λ _=>True) (λ _=>[]) λ _=>[FF b v j d]
def GD(l:List Tk)(i kd:Int)(ws:List A1):Int:=if(at' l i).kind=kd then NL ws (at' l i).s else-1
theorem bW{l:List Tk}{i kd:Int}{ws:List A1}(h:GD l i kd ws<0): ¬((at' l i).kind=kd/\(at' l i).s∈ws):=by
 rintro⟨h1,h2⟩
 unfold GD NL at h
 rw[if_pos h1,if_pos h2]at h;omega
theorem bX{l:List Tk}{i kd:Int}{ws:List A1}(h: ¬GD l i kd ws<0):(at' l i).kind=kd/\(at' l i).s∈ws/\GD l i kd ws=(ws.idxOf (at' l i).s:Nat):=by
 unfold GD NL at*
 by_cases h1:(at' l i).kind=kd
 ·rw[if_pos h1]at*
  by_cases h2:(at' l i).s∈ws
  ·rw[if_pos h2]at*;exact⟨h1,h2,rfl⟩
  ·rw[if_neg h2]at h;omega
 ·rw[if_neg h1]at h;omega
theorem bY(l:List Tk)(i kd:Int)(ws:List A1): -1<=GD l i kd ws:=by unfold GD NL;split<;>(try split)<;>omega
theorem bZ{w0 wv:World}{M0 M:Mem}{Rs:List HO}{b:Nat}{v:Value}{l:List Tk}{i d:Int}(kd:Int)(vw:Value)(ws:List A1)(h:HI w0 wv M0 M Rs b v l i d)(hw:Sl M 1 ws.length vw (ws.flatMap AZ))(hb:len ws<=1099511627776):
   Calls prog 177 [.pointer (some ⟨b,0,none⟩),i64 kd,vw].toArray wv (DT w0 M0 M Rs (λ _:Unit=>i64 (GD l i kd ws)) (λ _=>True) (λ _=>[]) λ _=>[FF b v i d]):=by
 obtain⟨hS,hl,hg,ok,h0,h1⟩:=h
 refine AU (Hr:=Rs) AP func177 U ntmps177 [(0,kn v 9 l Tk.cells),(1,kn vw 1 ws AZ)] [(0,AV b v i d)] [.bx 0 b 0,I kd,.sl 1 vw] U hS (fc 0 hl (λ _=>rfl) (fc 1 hw DZ AA)) (λ B hB=>?_) U
 refine CZ [0] (EB (at' l i)) U (A0 U) U call41 U U (A0 U) U (λ _ w M hS hF=>EN hS (hF.get (k:=0) U).sl h0 h1) U ?_
 refine A7 U (A0 U) U (λ hb1=>?_) (λ hb1=>?_)<;>simp only[zb]at hb1
 ·exact A9 hB U U (A0 U) U U (A0 U) λ w M' hX=>⟨(),M',by unfold GD;rw[if_neg hb1];rfl,trivial,hX.le,hX.st,AA⟩
 refine CZ [0] (EB (at' l i)) U (A0 U) U call41 U U (A0 U) U (λ _ w M hS hF=>EN hS (hF.get (k:=0) U).sl h0 h1) U ?_
 refine AY U (A0 U) U call226 U U (A0 U) (λ _ w M hX=>AE8 vw ws (at' l i).s hX.st.sat (hX.sl 1 U) hb) U ?_
 exact A9 hB U U (A0 U) U U (A0 U) λ w M' hX=>⟨(),M',by unfold GD;rw[if_pos hb1];rfl,trivial,hX.le,hX.st,AA⟩
theorem AE9{w0 wv:World}{M0 M:Mem}{Rs:List HO}{b:Nat}{v:Value}{l:List Tk}{i d:Int}(h:HI w0 wv M0 M Rs b v l i d):
    Calls prog 178 [.pointer (some ⟨b,0,none⟩)].toArray wv (TY w0 M0 M Rs b v d (GK l i) λ c=>.agg c.cells.toArray):=by
 obtain⟨hS,hl,hg,ok,h0,h1⟩:=h
 have hfew:=ok.few
 refine AU (Hr:=Rs) AP func178 U ntmps178 [(0,kn v 9 l Tk.cells)] [(0,AV b v i d)] [.bx 0 b 0] U hS (fc 0 hl (λ _=>rfl) AA) (λ B hB=>?_) U
 refine CU 2 U (A0 U) U zeroValue46 U λ b2=>?_
 refine CZ [0] (EB (at' l i)) U (A0 U) U call41 U U (A0 U) U (λ _ w M hS hF=>EN hS (hF.get (k:=0) U).sl h0 h1) U ?_
 refine CU 1 U (A0 U) U zeroValue63 U λ b1=>?_
 refine DS 3 [K2,K1,K0] AZ 1 9 DZ U (A0 U) U U (A0 U) (λ w=>by kernel_rfl) U λ v3=>?_
 refine WC [3] U U ?_
 have hge:=bY l i 2 [K2,K1,K0]
 refine CZ [0] (I (GD l i 2 [K2,K1,K0])) U (A0 U) U call177 U U (A0 U) U (λ _ w M hS hF=>bZ 2 v3 [K2,K1,K0] ⟨hS,(hF.get (k:=0) U).sl,hg,ok,h0,h1⟩ (hF.get (k:=3) U).sl (by decide)) U ?_
 refine A7 U (A0 U) (by simp only[zb]<;>omega) (λ hb1=>?_) (λ hb1=>?_)<;>simp only[zb]at hb1
 ·have e:GK l i= .er 1 (at' l i).pos:=by
   unfold GK D0
   rw[if_neg hb1.1.2,if_neg hb1.2,if_neg (bW hb1.1.1)]
  rw[e]at hB
  exact GM [0] U (A0 U) U U call42 U (A0 U) U (λ w M hS hF=>JF (at' l i) 1 hS) λ a w M hs hS hle=>EW _ (hB.p ⟨M,rfl,hS.drop _ jX,hle⟩ a hs)
 refine A7 U (A0 U) (by simp only[zb]<;>omega) (λ hb2=>?_) (λ hb2=>?_)<;>simp only[zb]at hb2
 ·have e:GK l i= .ok (at' l i).c (i+1):=by unfold GK;rw[if_pos hb2]
  rw[e]at hB
  exact A9 hB U U (A0 U) U U (A0 U) λ w M' hX=>⟨(),M',rfl,trivial,hX.le,(hX.CQ [0] U).drop _ ((List.sublist_cons_self _ _).cons_cons _),AA⟩
 refine A7 U (A0 U) (by simp only[zb]<;>omega) (λ hb3=>?_) (λ hb3=>?_)<;>simp only[zb]at hb3
 ·have e:GK l i= .ok ⟨4,0,[],(at' l i).s,false,0⟩ (i+1):=by unfold GK;rw[if_neg hb2,if_pos hb3]
  rw[e]at hB
  exact A9 hB U U (A0 U) U U (A0 U) λ w M' hX=>⟨(),M',rfl,trivial,hX.le,(hX.CQ [0] U).drop _ ((List.sublist_cons_self _ _).cons_cons _),AA⟩
 ·have hw: ¬GD l i 2 [K2,K1,K0]<0:=by omega
  obtain⟨q1,q2,q3⟩:=bX hw
  have e:GK l i= .ok ⟨GD l i 2 [K2,K1,K0],0,[],[],false,0⟩ (i+1):=by
   unfold GK
   rw[if_neg hb2,if_neg hb3,if_pos ⟨q1,q2⟩,q3]
  rw[e]at hB
  exact A9 hB U U (A0 U) U U (A0 U) λ w M' hX=>⟨(),M',rfl,trivial,hX.le,(hX.CQ [0] U).drop _ ((List.sublist_cons_self _ _).cons_cons _),AA⟩
theorem lS{w0 wv:World}{M0 M:Mem}{Rs:List HO}{b:Nat}{v:Value}{l:List Tk}{i d:Int}{r:PR Nd}(e:GK l i=r)(h:HI w0 wv M0 M Rs b v l i d):
 Calls prog 178 [.pointer (some ⟨b,0,none⟩)].toArray wv (TY w0 M0 M Rs b v d r λ c=>.agg c.cells.toArray):=by subst e;exact AE9 h
theorem lT{w0 wv:World}{M0 M:Mem}{Rs:List HO}{b:Nat}{v:Value}{l:List Tk}{i d:Int}(h:HI w0 wv M0 M Rs b v l i d):
   Calls prog 137 [.pointer (some ⟨b,0,none⟩)].toArray wv (TY w0 M0 M Rs b v d (L4 l i) λ x=>.agg x.t.cells.toArray):=by
 obtain⟨hS,hl,hg,ok,h0,h1⟩:=h
 have hfew:=ok.few
 refine AU (Hr:=Rs) AP func137 U ntmps137 [(0,kn v 9 l Tk.cells)] [(0,AV b v i d)] [.bx 0 b 0] U hS (fc 0 hl (λ _=>rfl) AA) (λ B hB=>?_) U
 refine CU 2 U (A0 U) U zeroValue48 U λ b2=>?_
 refine DS 3 CJ AZ 1 9 DZ U (A0 U) U U (A0 U) (λ w=>by kernel_rfl) U λ v3=>?_
 refine WC [3] U U ?_
 have hge:=bY l i 1 CJ
 refine CZ [0] (I (GD l i 1 CJ)) U (A0 U) U call177 U U (A0 U) U (λ _ w M hS hF=>bZ 1 v3 CJ ⟨hS,(hF.get (k:=0) U).sl,hg,ok,h0,h1⟩ (hF.get (k:=3) U).sl (by decide)) U ?_
 unfold L4 at hB
 refine A7 U (A0 U) U (λ hb1=>?_) (λ hb1=>?_)<;>simp only[zb]at hb1
 ·rw[if_neg (bW hb1)]at hB
  refine CZ [0] (EB (at' l i)) U (A0 U) U call41 U U (A0 U) U (λ _ w M hS hF=>EN hS (hF.get (k:=0) U).sl h0 h1) U ?_
  exact GM [0] U (A0 U) U U call42 U (A0 U) U (λ w M hS hF=>JF (at' l i) 1 hS) λ a w M hs hS hle=>EW _ (hB.p ⟨M,rfl,hS.drop _ KD,hle⟩ a hs)
 obtain⟨q1,q2,q3⟩:=bX (l:=l) (i:=i) (kd:=1) (ws:=CJ) (by omega)
 have hj2:=IQ ok h0 h1 q1 (by decide)
 rw[if_pos ⟨q1,q2⟩,<-q3]at hB
 cases hli:GK l (i+1)with
 |er ec p=>
  rw[hli]at hB
  exact GM [0] U (A0 U) (by simp only[zb]<;>omega) U call178 U (A0 U) U (λ w M hS hF=>lS hli ⟨hS,(hF.get (k:=0) U).sl,hg,ok,by omega,hj2⟩) λ a w M hs hS hle=>EW _ (hB.p ⟨M,rfl,hS.drop _ KD,hle⟩ a hs)
 |ok c k=>
  obtain⟨rfl,hj3⟩:=k0 ok (by omega) hj2 hli
  rw[hli]at hB
  refine BQ [0] (λ _:Unit=>.ag (K6 c.cells)) [] (λ _=>[(0,AV b v (i+1+1) d)]) U (A0 U) (by simp only[zb]<;>omega) U call178 U U (A0 U) U (λ w M hS hF=>lS hli ⟨hS,(hF.get (k:=0) U).sl,hg,ok,by omega,hj2⟩) (λ _=>rfl) (λ _=>rfl) λ _ _=>?_
  exact A9 hB U U (A0 U) U U (A0 U) λ w M' hX=>⟨(),M',rfl,trivial,hX.le,(hX.CQ [0] U).drop _ ((List.sublist_cons_self _ _).cons_cons _),AA⟩
end Go.Proofs.YtmjpjbmeamnfpaaGreatDoor
namespace Go.Eng
open Go.RowKit
section pv
variable {P:Program} {C:World->Prop} {L:Env} {W:Bool} {d:Option Tmp} {ty:TypeId} {ps:String} {af:Array Edge} {gd:Option (Nat×Bool)}
theorem PV.AF0 {t t':TypeId}{x y:Operand}{k yk:IntKind}{a b r:Int}(hx:A8 L W x (.int k a))(hy:A8 L W y (.int yk b))(hb:W=true->0<=b)(hr:W=true->a.fdiv (2^min b.toNat k.bits)=r):PV P C L W ⟨d,.binOp .shr t x y t',ty,ps,af,gd⟩ (.int k r):=
 .bin hx hy λ hW w _=>by rw[<-hr hW];simp[go_sem,binOp,Op.shift,Sem.run,pure,bind,Sem.bind,show ¬b<0 from by have:=hb hW;omega]
theorem PV.AF1 {t t':TypeId}{x y:Operand}{k yk:IntKind}{a b r:Int}(hx:A8 L W x (.int k a))(hy:A8 L W y (.int yk b))(hb:W=true->0<=b)(hr:W=true->k.wrap (a*2^min b.toNat k.bits)=r):PV P C L W ⟨d,.binOp .shl t x y t',ty,ps,af,gd⟩ (.int k r):=
 .bin hx hy λ hW w _=>by rw[<-hr hW];simp[go_sem,binOp,Op.shift,Sem.run,pure,bind,Sem.bind,show ¬b<0 from by have:=hb hW;omega]
theorem PV.AF2 {t t':TypeId}{x y:Operand}{k:IntKind}{a b r:Int}(hx:A8 L W x (.int k a))(hy:A8 L W y (.int k b))(hr:W=true->k.wrap (BitVec.ofInt k.bits a&&& BitVec.ofInt k.bits b).toNat=r):PV P C L W ⟨d,.binOp .and t x y t',ty,ps,af,gd⟩ (.int k r):=
 .bin hx hy λ hW w _=>by rw[<-hr hW];simp[go_sem,binOp,Op.intBits,Sem.run,pure,bind,Sem.bind]
theorem PV.orK {t t':TypeId}{x y:Operand}{k:IntKind}{a b r:Int}(hx:A8 L W x (.int k a))(hy:A8 L W y (.int k b))(hr:W=true->k.wrap (BitVec.ofInt k.bits a|||BitVec.ofInt k.bits b).toNat=r):PV P C L W ⟨d,.binOp .or t x y t',ty,ps,af,gd⟩ (.int k r):=
 .bin hx hy λ hW w _=>by rw[<-hr hW];simp[go_sem,binOp,Op.intBits,Sem.run,pure,bind,Sem.bind]
end pv
theorem PR.JH {α β:Type}{k:α->Int->PR β}{x:α}{j:Int}:(PR.ok x j).bind k=k x j:=rfl
theorem PR.ret {α:Type}(r:PR α):(r.bind λ x j=>.ok x j)=r:=by cases r<;>rfl
theorem PR.assoc {α β γ:Type}(r:PR α)(f:α->Int->PR β)(g:β->Int->PR γ):(r.bind f).bind g=r.bind λ x j=>(f x j).bind g:=by cases r<;>rfl
theorem PR.congr {α β:Type}{r:PR α}{f g:α->Int->PR β}(h: ∀x j,f x j=g x j):r.bind f=r.bind g:=by cases r with|er c p=>rfl|ok x j=>exact h x j
section
variable {c:Cx} {B:Exit->Act->World->Prop} {k k':List Fr} {m:Md} {s s':XS} {O:Prop} {E:List Ck} {all:Array Oper} {rest:List Oper} {d:Nat} {ty:TypeId} {ps:String} {af:Array Edge}
theorem C9{α β γ:Type}(ids ks:List Nat)(ux:α->γ->XV)(Hx:α->Int->γ->List (Nat×HX)){tw:TypeId}{r:PR α}{kk:α->Int->PR β}{fn:Func}{G:β->Int->Ending->World->Prop}{Rs:List HO}{u:α->γ->Value}{pu:α->Int->γ->Prop}{Fg:α->Int->γ->List (Nat×Kn)}{Hg:α->Int->γ->List HO}
  {xf:Operand} {f:FuncId} {fa fb:List Value} {E1 E2:List Ck} {xs:List Operand} {tys:Array TypeId} {vs:List XV} {A R:List (Nat×HX)} {dd:Option Tmp} (hB:Ends c.P fn (OM c.w0 c.M0 c.M1 Rs tw (r.bind kk) G) B)
  (h:run c.T c.N k m s=⟨k',.ops all (⟨dd,.call ⟨.value xf,⟨xs⟩,tys⟩,ty,ps,af,none⟩::rest),s',O,E⟩) (hE:AD E) (hO:O) (hf:callee s'.L xf=some (f,fa,fb,E1)) (ct:CT c.P f) (hd:jB dd c.N=true) (hx:J6 s'.L .t xs=some (vs,E2)) (hE1:AD (E1++E2))
  (hA:L1 ids s'.H=some (A,R)) (hR:Rs.Sublist (HD R++c.Hr)) (hc: ∀w M,St c.w0 c.M0 w M (HD A++(HD R++c.Hr))->BF M s'.F->Calls c.P f (fa++vs.map XV.d++fb).toArray w (OM c.w0 c.M0 M (HD R++c.Hr) tw r λ x j=>DT c.w0 c.M0 M (HD R++c.Hr) (u x) (pu x j) (Fg x j) (Hg x j)))
  (hu: ∀x g,(ux x g).d=u x g) (hH: ∀x j g,HD (Hx x j g)=Hg x j g)
  (hn: ∀x j,r= .ok x j->Ends c.P fn (OM c.w0 c.M0 c.M1 Rs tw (kk x j) G) B-> ∀g,pu x j g->XG c B k' (.ops all rest) ⟨RJ ks (Fg x j g)++s'.F,Hx x j g++R,aF dd (ux x g) s'.L⟩):XG c B k m s:=by
 cases r with
 |er ec p=>exact GM ids h hE hO hf ct hx hE1 hA hc λ a w M hs hS hle=>EW _ (hB.p ⟨M,rfl,hS.drop _ hR,hle⟩ a hs)
 |ok x j=>exact BQ ids (ux x) ks (Hx x j) h hE hO hf ct hd hx hE1 hA hc (hu x) (hH x j) (hn x j U hB)
theorem AF4{id:Nat}(hl: ∀Q a w,Q Exit.normal a w->c.W.wp (.label id) Q a w)(h:run c.T c.N k m s=⟨k',.code (.label id),s',O,E⟩)(hE:AD E)(hO:O)(hn:XG c B k' .next s'):XG c B k m s:=
 CX h hE hO λ a w hs=>hl _ a w (hn a w hs)
theorem lU{σ:Type}{x z:Code}{k2 q:List Fr}(n:Nat)(J:XS->Prop)(Sf:σ->XS)(I:σ->Prop)(μ:σ->Nat)(g0:σ)(h:run c.T c.N k m s=⟨k',.code (.loop x),s',O,E⟩)(hE:AD E)(hO:O)
  (hk:RH J k' n=some (k2,z,q)) (h0:(⟨KZ (Sf g0).F s'.F,L0 (Sf g0).H s'.H,GZ (keys (Sf g0).L) s'.L⟩:XS)=Sf g0) (hI:I g0)
  (hr: ∀g,I g->XG c B (.loop (LJ Sf I μ g)::k2) (.code x) (Sf g)) (h2: ∀s',J s'->XG c B q (.code z) s'):XG c B k m s:=by
 obtain⟨p,rfl,rfl⟩:=aE hk
 have hm: ∀e a w,post c B (.loop J::q) e a w->post c B (.seq z::q) e a w:=λ e a w h=>RI (λ a w ⟨s',hJ,hs⟩=>h2 s' hJ a w hs) (λ _ _ _ h=>h) e a w h
 exact CD Sf I μ g0 h hE hO h0 hI λ g hg a w hs=>c.W.mono (hr g hg a w hs) (MF hm (.loop (LJ Sf I μ g)::p))
theorem lV{op:Op}{l:List Oper}{F:List (Nat×Kn)}{H:List (Nat×HX)}{L L':XE}{gd:Option (Nat×Bool)}{W:Gd}(v:XV)(h:J9 c.T c.N F H all l L ((0:Int)=0) []=⟨⟨some d,op,ty,ps,af,gd⟩::rest,L',O,E⟩)(hE:AD E)(hO:O)(hg:(IJ all L' gd,Nat.blt d c.N)=(some W,true))
  (hp: ∀w M,E5 c F H w M->PV c.P (λ w'=>Ext w w') L'.d W.d ⟨some d,op,ty,ps,af,gd⟩ v.d) (hn:XQ c B k all rest ⟨F,H,(d,W,v)::L'⟩):XQ c B k all l ⟨F,H,L⟩:=by
 simp only[Prod.mk.injEq]at hg
 have:=W5 (c:=c) (B:=B) (k:=k) (all:=all) (F:=F) (H:=H) (l:=l) (L:=L) (O:=(0:Int)=0) (E:=[])
 rw[h]at this
 exact(this hO hE λ w M hX=>RQ.v (MC hg.1) (hp w M hX) hg.2 (hn w M hX)).2.2
end
end Go.Eng
namespace Go.Proofs.YtmjpjbmeamnfpaaGreatDoor
open Go.Proofs.Tryz
open Go.Eng
theorem AF5: ∀a:Fin 32,IntKind.i64.wrap (BitVec.ofInt IntKind.i64.bits ((a:Nat):Int)&&& BitVec.ofInt IntKind.i64.bits 1).toNat=(((a:Nat)%2:Nat):Int):=by decide+kernel
theorem lW: ∀(a:Fin 32) (k:Fin 5),(a:Nat)/2^ (k:Nat)%2=0->IntKind.i64.wrap (BitVec.ofInt IntKind.i64.bits ((a:Nat):Int)|||BitVec.ofInt IntKind.i64.bits ((2^ (k:Nat):Nat):Int)).toNat=((a:Nat):Int)+((2^ (k:Nat):Nat):Int)/\(a:Nat)+2^ (k:Nat)<32:=by decide+kernel
theorem AF6(m k:Nat)(h:k<5):((m:Int)).fdiv (2^min ((k:Int)).toNat IntKind.i64.bits)=((m/2^k:Nat):Int):=by
 rw[Int.toNat_natCast,show min k IntKind.i64.bits=k from Nat.min_eq_left (by show k<=64;omega),Int.fdiv_eq_ediv_of_nonneg _ (Int.pow_nonneg (by decide)),Int.natCast_ediv,Int.natCast_pow];rfl
theorem AF7: ∀k:Fin 5,IntKind.i64.wrap (1*2^min (((k:Nat):Int)).toNat IntKind.i64.bits)=((2^ (k:Nat):Nat):Int):=by decide+kernel
theorem X1{l:List Tk}(ok:EO l){m i n j:Int}(h0:0<=i)(h1:i<len l)(hm0:0<=m)(hm1:m<32)(h:MI l m i= .ok n j):j=i+1/\j<len l/\0<=n/\n<32:=by
 unfold MI at h
 split at h
 ·rename_i q
  have h5:C0.idxOf (at' l i).s<5:=List.idxOf_lt_length_of_mem q.2.1
  have h6:=(lW ⟨m.toNat,by omega⟩ ⟨_,h5⟩ q.2.2).2
  dsimp only at h6
  generalize 2^C0.idxOf (at' l i).s=z at h h6
  cases h
  exact⟨rfl,IQ ok h0 h1 q.1 (by decide),by omega,by omega⟩
 ·exact(DU h).elim
theorem lX{w0 wv:World}{M0 M:Mem}{Rs:List HO}{b:Nat}{v:Value}{l:List Tk}{i d:Int}(m:Int)(h:HI w0 wv M0 M Rs b v l i d)(hm0:0<=m)(hm1:m<32):
    Calls prog 136 [.pointer (some ⟨b,0,none⟩),i64 m].toArray wv (TY w0 M0 M Rs b v d (MI l m i) λ n=>i64 n):=by
 obtain⟨hS,hl,hg,ok,h0,h1⟩:=h
 have hfew:=ok.few
 refine AU (Hr:=Rs) AP func136 U ntmps136 [(0,kn v 9 l Tk.cells)] [(0,AV b v i d)] [.bx 0 b 0,I m] U hS (fc 0 hl (λ _=>rfl) AA) (λ B hB=>?_) U
 refine DS 3 C0 AZ 1 9 DZ U (A0 U) U U (A0 U) (λ w=>by kernel_rfl) U λ v3=>?_
 refine WC [3] U U ?_
 have hge:=bY l i 2 C0
 refine CZ [0] (I (GD l i 2 C0)) U (A0 U) U call177 U U (A0 U) U (λ _ w M hS hF=>bZ 2 v3 C0 ⟨hS,(hF.get (k:=0) U).sl,hg,ok,h0,h1⟩ (hF.get (k:=3) U).sl (by decide)) U ?_
 obtain⟨mn,rfl⟩: ∃mn:Nat,m=mn:=⟨m.toNat,by omega⟩
 unfold MI at hB
 rw[Int.toNat_natCast]at hB
 refine L3 (I 0) U (A0 U) U U (λ h2=>?_) (λ h2=>?_)
 ·have h3: ¬GD l i 2 C0<0:=by simpa using h2
  obtain⟨q1,q2,q3⟩:=bX h3
  obtain⟨kn,hkn⟩: ∃kn,kn=C0.idxOf (at' l i).s:=⟨_,rfl⟩
  have hkl:kn<5:=by rw[hkn];exact List.idxOf_lt_length_of_mem q2
  rw[<-hkn]at q3 hB
  obtain⟨q,hq⟩: ∃q,q=mn/2^kn:=⟨_,rfl⟩
  have hq32:q<32:=by rw[hq];exact Nat.lt_of_le_of_lt (Nat.div_le_self _ _) (by omega)
  refine CY (I (q:Int)) U (A0 U) U U (λ w M hX=>PV.AF0 (AN (v:=I (mn:Int)) (E:=[.b true _]) U (OK h2 U)) (AN (v:=I (GD l i 2 C0)) (E:=[.b true _]) U (OK h2 U)) (λ _=>by omega) (λ _=>by rw[q3,AF6 _ _ hkl,hq])) ?_
  refine CY (I ((q%2:Nat):Int)) U (A0 U) U U (λ w M hX=>PV.AF2 (AN (v:=I (q:Int)) (E:=[]) U (A0 U)) (AN (v:=I 1) (E:=[]) U (A0 U)) (λ _=>AF5 ⟨q,hq32⟩)) ?_
  refine A7 U (A0 U) U (λ hb1=>?_) (λ hb1=>?_)<;>simp only[zb]at hb1
  ·rw[if_neg (λ c=>by rw[<-hq]at c;omega)]at hB
   refine CZ [0] (EB (at' l i)) U (A0 U) U call41 U U (A0 U) U (λ _ w M hS hF=>EN hS (hF.get (k:=0) U).sl h0 h1) U ?_
   exact GM [0] U (A0 U) U U call42 U (A0 U) U (λ w M hS hF=>JF (at' l i) 1 hS) λ a w M hs hS hle=>EW _ (hB.p ⟨M,rfl,hS.drop _ (List.sublist_cons_self _ _),hle⟩ a hs)
  have hq2:q%2=0:=by omega
  rw[if_pos ⟨q1,q2,by rw[<-hq];exact hq2⟩]at hB
  have hbo:=lW ⟨mn,by omega⟩ ⟨kn,hkl⟩ (by dsimp only;rw[<-hq];exact hq2)
  refine CY (I ((2^kn:Nat):Int)) U (A0 U) (by simp only[zb]<;>omega) U (λ w M hX=>PV.AF1 (AN (v:=I 1) (E:=[]) U (A0 U)) (AN (v:=I (GD l i 2 C0)) (E:=[]) U (A0 U)) (λ _=>by omega) (λ _=>by rw[q3];exact AF7 ⟨kn,hkl⟩)) ?_
  refine CY (I ((mn:Int)+((2^kn:Nat):Int))) U (A0 U) U U (λ w M hX=>PV.orK (AN (v:=I (mn:Int)) (E:=[]) U (A0 U)) (AN (v:=I ((2^kn:Nat):Int)) (E:=[]) U (A0 U)) (λ _=>hbo.1)) ?_
  exact A9 hB U U (A0 U) U U (A0 U) λ w M' hX=>⟨(),M',rfl,trivial,hX.le,(hX.CQ [0] U).drop _ ((List.sublist_cons_self _ _).cons_cons _),AA⟩
 ·have h3:GD l i 2 C0<0:=by simpa using h2
  rw[if_neg (λ c=>bW h3 ⟨c.1,c.2.1⟩)]at hB
  refine L3 (I 0) U (A0 U) U U (λ h4=>?_) (λ h4=>?_)
  ·rw[h2]at h4;cases h4
  refine A7 U (A0 U) (by simp only[zb]<;>omega) (λ hb1=>?_) (λ hb1=>?_)<;>simp only[zb]at hb1
  ·refine CZ [0] (EB (at' l i)) U (A0 U) U call41 U U (A0 U) U (λ _ w M hS hF=>EN hS (hF.get (k:=0) U).sl h0 h1) U ?_
   exact GM [0] U (A0 U) U U call42 U (A0 U) U (λ w M hS hF=>JF (at' l i) 1 hS) λ a w M hs hS hle=>EW _ (hB.p ⟨M,rfl,hS.drop _ (List.sublist_cons_self _ _),hle⟩ a hs)
  ·omega
end Go.Proofs.YtmjpjbmeamnfpaaGreatDoor
