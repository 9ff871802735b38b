/-
  Paths: their texts.
-/
import Derived.Test.YtmjpjbmeamnfpaaGreatDoorZb4
import Derived.Laws.BitsLemmas
import Derived.Test.YtmjpjbmeamnfpaaGreatDoorZb3
import Derived.Test.YtmjpjbmeamnfpaaGreatDoorProg
import Derived.Test.YtmjpjbmeamnfpaaGreatDoorZb16
import Derived.Test.YtmjpjbmeamnfpaaGreatDoorZb20
import Derived.Test.YtmjpjbmeamnfpaaGreatDoorZb13
import Derived.Test.YtmjpjbmeamnfpaaGreatDoorZb11
import Derived.Test.YtmjpjbmeamnfpaaGreatDoorZb19
import Derived.Test.YtmjpjbmeamnfpaaGreatDoorZb14
set_option linter.unusedVariables false
set_option linter.unusedSimpArgs false
set_option maxRecDepth 100000
namespace Go.Proofs.YtmjpjbmeamnfpaaGreatDoor
open Go.Eng

theorem trimN_c (s : Str) (w : World) : Calls Tryz.prog 47 [str s, str [48, 49, 50, 51, 52, 53, 54, 55, 56, 57, 43, 45, 46, 101, 69]].toArray w fun e w' => e = .returned (str (dropN s)) ∧ Ext w w' := trimLeft_c s _ w (by decide) (cut_low (by decide))
theorem trimB_c (s : Str) (w : World) : Calls Tryz.prog 47 [str s, str [32, 9, 10, 13]].toArray w fun e w' => e = .returned (str (dropB s)) ∧ Ext w w' := trimLeft_c s _ w (by decide) (cut_low (by decide))
/- (*loupe/lex.marks).token -/
theorem token_c {w wv : World} {M0 M : Mem} {Rs : List HO} (b : Nat) (cs : List Value) (X : HO) (s : Str) (hS : St w M0 wv M (.box b cs 104 :: X :: Rs)) (hm : MarkOk M cs X) (hg : Gl w) (h0 : 0 < len s) (hb : len s ≤ 1099511627776) :
  Calls Tryz.prog 48 [(.pointer (some ⟨b, 0, none⟩)), (str s)].toArray wv fun e w' => ∃ v, e = .returned v ∧ ∃ cs' X' M', v = .tuple #[.agg (Tk.cells (tokP s).1).toArray, i64 (tokP s).2.1, i64 (tokP s).2.2] ∧ MarkOk M' cs' X' ∧ St w M0 w' M' (.box b cs' 104 :: X' :: Rs) ∧ M.le M' := by
 refine CW.enter1 Tryz.func48 rfl Tryz.ntmps48 (Nat.le_of_ble_eq_true rfl) fun Q hE => ?_
 have hf1 := from_bd s 1
 have hfl := from_len s 1 (by omega) (by omega)
 have hw1 := wordP_bd (from' s 1)
 have hu1 := unqP_bd (from' s 1)
 have hsb := sub_bd s 0 (len s - len (dropN s))
 have hdn := dropN_len s
 have hrn : Eng.sub s 0 (len s - len (dropN s)) = Eng.runN s := rfl
 have hisf : isFig (byteAt s 0) = true ↔ (48 ≤ byteAt s 0 ∧ byteAt s 0 ≤ 57) := by unfold isFig; simp
 refine CW.weaken [0, 1] (L' := [Y 0 (.pointer (some ⟨b, 0, none⟩)), Y 1 (str s)]) ?_ rfl
 refine CW.sr ?_
 refine RL.alloc hS Tryz.zeroValue63 rfl (fun w1 b2 hS3 => ?_)
 refine RL.u (.assign .c) rfl (RL.u (.assign .c) rfl (RL.nil (CW.id ?_)))
 refine CW.seq (CW.sr (RL.m rfl rfl (RL.u (.idxS (.t rfl) .c Tryz.underlying9 (fun _ => by omega)) rfl (RL.u (.eql (.t rfl) .c) rfl (RL.nil (CW.id ?_))))))
 refine CW.cond rfl ?_ ?_ <;> intro hb1 <;> try simp only [zb] at hb1
 ·refine CW.seq (CW.sr (RL.m rfl rfl (RL.u (.slSl (.t rfl) .c Tryz.underlying9 (fun _ => by omega)) rfl ?_)))
  refine RL.callE hS3 .none Tryz.call76 (.cons (.t rfl) .nil) (fun _ => (word_c (Eng.from' s 1) _ (by omega))) rfl (fun w4 hS5 => ?_)
  refine RL.a rfl rfl ?_
  refine RL.nil (CW.at [Y 0 (.pointer (some ⟨b, 0, none⟩)), Y 1 (str s), Y 4 (.pointer (some ⟨b2, 0, none⟩)), Y 7 (str (wordP (Eng.from' s 1)))] rfl (CW.sr (RL.m rfl rfl (RL.u (.sneq (.t rfl) .c) rfl (RL.nil (CW.id ?_))))))
  refine CW.cond rfl ?_ ?_ <;> intro hb2 <;> try simp only [zb] at hb2
  ·refine CW.sr (RL.m rfl rfl (RL.u (.build (vs := [(0, (i64 3)), (1, (str (wordP (Eng.from' s 1))))]) (v := (.agg #[(i64 3), (str (wordP (Eng.from' s 1))), (i64 0), (i64 0), (str []), (str []), (.bool false), (i64 0), (i64 0)])) (.cons .c (.cons (.t rfl) .nil)) (fun w => by kernel_rfl)) rfl (RL.m rfl rfl (RL.u (.lenS (.t rfl) Tryz.underlying9) rfl (RL.u (.add .c (.t rfl) (fun _ => by omega)) rfl ?_)))))
   refine RL.st hS5 (i := 0) rfl (.t rfl) (.t rfl) Tryz.sizeOf63 rfl rfl rfl rfl rfl (fun w6 hS7 => ?_)
   refine RL.a rfl rfl (RL.u (.assign .c) rfl (RL.nil (CW.id ?_)))
   refine CW.ret (hE.R3 rfl (.boxN hS7 (i := 0) rfl rfl Tryz.isAgg63 Tryz.sizeOf63) (show RV _ _ _ (.tmp _) _ from rfl) (show RV _ _ _ (.tmp _) _ from rfl) ?_)
   replace hS7 : St w M0 w6 M (.box b cs 104 :: X :: Rs) := hS7.erase 0 rfl
   clear hE
   have hq : tokP s = ((⟨3, wordP (Eng.from' s 1), ⟨0, 0, [], [], false, 0⟩, 0⟩ : Tk), 1 + (len (wordP (Eng.from' s 1))), 0) := by
    unfold tokP
    rw [if_pos (by first | assumption | omega | (simp_all; done) | grind)]
    try rfl
   exact ⟨_, rfl, _, _, _, by rw [hq]; rfl, hm, hS7, (Mem.le.refl _)⟩
  ·refine CW.skip (CW.id (CW.sr (RL.m rfl rfl (RL.u (.slSl (.t rfl) .c Tryz.underlying9 (fun _ => by omega)) rfl ?_))))
   refine RL.callS .none Tryz.call77 (.cons (.t rfl) (.cons .c .nil)) (fun _ => (hasPrefix_c (Eng.from' s 1) [34] _)) rfl ?_
   refine RL.nil (CW.at [Y 0 (.pointer (some ⟨b, 0, none⟩)), Y 1 (str s), Y 4 (.pointer (some ⟨b2, 0, none⟩)), Y 36 (.bool (Lib.hasPrefix (Eng.from' s 1) [34]))] rfl ?_)
   refine CW.cond rfl ?_ ?_ <;> intro hb3 <;> try simp only [zb] at hb3
   ·refine CW.sr (RL.m rfl rfl (RL.u (.slSl (.t rfl) .c Tryz.underlying9 (fun _ => by omega)) rfl ?_))
    refine RL.callE hS5 .none Tryz.call78 (.cons (.t rfl) .nil) (fun _ => (unquote_c (Eng.from' s 1) _ (hg.low hS5.low) (by first | omega | exact Int.le_trans (from_bd _ _).2 (by omega)))) rfl (fun w8 hS9 => ?_)
    refine RL.m rfl rfl (RL.u (.ex (.t rfl) rfl) rfl (RL.u (.ex (.t rfl) rfl) rfl (RL.u (.ex (.t rfl) rfl) rfl (RL.a rfl rfl (RL.a rfl rfl ?_)))))
    refine RL.a rfl rfl ?_
    refine RL.nil (CW.at [Y 4 (.pointer (some ⟨b2, 0, none⟩)), Y 8 (str ((unqP (Eng.from' s 1)).1)), Y 9 (i64 ((unqP (Eng.from' s 1)).2.1)), Y 10 (i64 ((unqP (Eng.from' s 1)).2.2))] rfl (CW.sr (RL.m rfl rfl (RL.u (.build (vs := [(0, (i64 3)), (1, (str ((unqP (Eng.from' s 1)).1)))]) (v := (.agg #[(i64 3), (str ((unqP (Eng.from' s 1)).1)), (i64 0), (i64 0), (str []), (str []), (.bool false), (i64 0), (i64 0)])) (.cons .c (.cons (.t rfl) .nil)) (fun w => by kernel_rfl)) rfl (RL.m rfl rfl (RL.u (.add .c (.t rfl) (fun _ => by omega)) rfl (RL.m rfl rfl ?_)))))))
    refine RL.st hS9 (i := 0) rfl (.t rfl) (.t rfl) Tryz.sizeOf63 rfl rfl rfl rfl rfl (fun w10 hS11 => ?_)
    refine RL.a rfl rfl (RL.a rfl rfl (RL.nil (CW.id ?_)))
    refine CW.ret (hE.R3 rfl (.boxN hS11 (i := 0) rfl rfl Tryz.isAgg63 Tryz.sizeOf63) (show RV _ _ _ (.tmp _) _ from rfl) (show RV _ _ _ (.tmp _) _ from rfl) ?_)
    replace hS11 : St w M0 w10 M (.box b cs 104 :: X :: Rs) := hS11.erase 0 rfl
    clear hE
    have hq : tokP s = ((⟨3, (unqP (Eng.from' s 1)).1, ⟨0, 0, [], [], false, 0⟩, 0⟩ : Tk), 1 + ((unqP (Eng.from' s 1)).2.1), (unqP (Eng.from' s 1)).2.2) := by
     unfold tokP
     rw [if_neg (by first | assumption | omega | (simp_all; done) | grind), if_pos (by first | assumption | omega | (simp_all; done) | grind)]
     try rfl
    exact ⟨_, rfl, _, _, _, by rw [hq]; rfl, hm, hS11, (Mem.le.refl _)⟩
   ·refine CW.skip (CW.id (CW.seq (CW.sr (RL.m rfl rfl (RL.m rfl rfl ?_)))))
    replace hS5 : St w M0 w4 M (.box b cs 104 :: X :: .box b2 [(i64 0), (str []), (i64 0), (i64 0), (str []), (str []), (.bool false), (i64 0), (i64 0)] 63 :: Rs) := (hS5.front 2 rfl rfl).front 2 rfl rfl
    refine RL.callP Tryz.call79 (.cons (.t rfl) (.cons (.t rfl) .nil)) (at_c (Rs := (.box b2 [(i64 0), (str []), (i64 0), (i64 0), (str []), (str []), (.bool false), (i64 0), (i64 0)] 63 :: Rs)) b cs X s hS5 (by assumption) hg (by omega) (by omega)) rfl ?_
    rintro v15 w16 ⟨cs12, X13, M17, rfl, hm14, hS18, hle19⟩
    replace hS18 : St w M0 w16 M17 (.box b cs12 104 :: X13 :: .box b2 [(i64 0), (str []), (i64 0), (i64 0), (str []), (str []), (.bool false), (i64 0), (i64 0)] 63 :: Rs) := hS18
    refine RL.a rfl rfl ?_
    refine RL.nil (CW.at [Y 1 (str s), Y 4 (.pointer (some ⟨b2, 0, none⟩)), Y 11 (str (markP s))] rfl (CW.sr (RL.m rfl rfl (RL.u (.sneq (.t rfl) .c) rfl (RL.nil (CW.id ?_))))))
    refine CW.cond rfl ?_ ?_ <;> intro hb4 <;> try simp only [zb] at hb4
    ·refine CW.sr (RL.m rfl rfl (RL.u (.build (vs := [(0, (i64 1)), (1, (str (markP s)))]) (v := (.agg #[(i64 1), (str (markP s)), (i64 0), (i64 0), (str []), (str []), (.bool false), (i64 0), (i64 0)])) (.cons .c (.cons (.t rfl) .nil)) (fun w => by kernel_rfl)) rfl (RL.m rfl rfl (RL.u (.lenS (.t rfl) Tryz.underlying9) rfl ?_))))
     refine RL.st hS18 (i := 2) rfl (.t rfl) (.t rfl) Tryz.sizeOf63 rfl rfl rfl rfl rfl (fun w20 hS21 => ?_)
     refine RL.a rfl rfl (RL.u (.assign .c) rfl (RL.nil (CW.id ?_)))
     refine CW.ret (hE.R3 rfl (.boxN hS21 (i := 2) rfl rfl Tryz.isAgg63 Tryz.sizeOf63) (show RV _ _ _ (.tmp _) _ from rfl) (show RV _ _ _ (.tmp _) _ from rfl) ?_)
     replace hS21 : St w M0 w20 M17 (.box b cs12 104 :: X13 :: Rs) := hS21.erase 2 rfl
     clear hE
     have hq : tokP s = ((⟨1, markP s, ⟨0, 0, [], [], false, 0⟩, 0⟩ : Tk), len (markP s), 0) := by
      unfold tokP
      rw [if_neg (by first | assumption | omega | (simp_all; done) | grind), if_neg (by first | assumption | omega | (simp_all; done) | grind), if_pos (by first | assumption | omega | (simp_all; done) | grind)]
      try rfl
     exact ⟨_, rfl, _, _, _, by rw [hq]; rfl, hm14, hS21, hle19⟩
    ·refine CW.skip (CW.id (CW.seq (CW.sr (RL.m rfl rfl ?_))))
     refine RL.callE hS18 .none Tryz.call76 (.cons (.t rfl) .nil) (fun _ => (word_c s _ (by omega))) rfl (fun w22 hS23 => ?_)
     refine RL.a rfl rfl ?_
     refine RL.nil (CW.at [Y 1 (str s), Y 4 (.pointer (some ⟨b2, 0, none⟩)), Y 12 (str (wordP s))] rfl (CW.sr (RL.m rfl rfl (RL.u (.sneq (.t rfl) .c) rfl (RL.nil (CW.id ?_))))))
     refine CW.cond rfl ?_ ?_ <;> intro hb5 <;> try simp only [zb] at hb5
     ·refine CW.sr (RL.m rfl rfl (RL.u (.build (vs := [(0, (i64 2)), (1, (str (wordP s)))]) (v := (.agg #[(i64 2), (str (wordP s)), (i64 0), (i64 0), (str []), (str []), (.bool false), (i64 0), (i64 0)])) (.cons .c (.cons (.t rfl) .nil)) (fun w => by kernel_rfl)) rfl (RL.m rfl rfl (RL.u (.lenS (.t rfl) Tryz.underlying9) rfl ?_))))
      refine RL.st hS23 (i := 2) rfl (.t rfl) (.t rfl) Tryz.sizeOf63 rfl rfl rfl rfl rfl (fun w24 hS25 => ?_)
      refine RL.a rfl rfl (RL.u (.assign .c) rfl (RL.nil (CW.id ?_)))
      refine CW.ret (hE.R3 rfl (.boxN hS25 (i := 2) rfl rfl Tryz.isAgg63 Tryz.sizeOf63) (show RV _ _ _ (.tmp _) _ from rfl) (show RV _ _ _ (.tmp _) _ from rfl) ?_)
      replace hS25 : St w M0 w24 M17 (.box b cs12 104 :: X13 :: Rs) := hS25.erase 2 rfl
      clear hE
      have hq : tokP s = ((⟨2, wordP s, ⟨0, 0, [], [], false, 0⟩, 0⟩ : Tk), len (wordP s), 0) := by
       unfold tokP
       rw [if_neg (by first | assumption | omega | (simp_all; done) | grind), if_neg (by first | assumption | omega | (simp_all; done) | grind), if_neg (by first | assumption | omega | (simp_all; done) | grind), if_pos (by first | assumption | omega | (simp_all; done) | grind)]
       try rfl
      exact ⟨_, rfl, _, _, _, by rw [hq]; rfl, hm14, hS25, hle19⟩
     ·refine CW.skip (CW.id (CW.seq (CW.sr (RL.m rfl rfl (RL.u (.idxS (.t rfl) .c Tryz.underlying9 (fun _ => by omega)) rfl (RL.a rfl rfl (RL.nil (CW.id ?_))))))))
      refine CW.block (CW.sr (RL.m rfl rfl (RL.u (.eql (.t rfl) .c) rfl (RL.a rfl rfl (RL.nil (CW.id ?_))))))
      refine CW.cond rfl ?_ ?_ <;> intro hb6 <;> try simp only [zb] at hb6
      ·refine CW.sr (RL.m rfl rfl ?_)
       refine RL.callE hS23 .none Tryz.call78 (.cons (.t rfl) .nil) (fun _ => (unquote_c s _ (hg.low hS23.low) (by first | omega | exact Int.le_trans (from_bd _ _).2 (by omega)))) rfl (fun w26 hS27 => ?_)
       refine RL.m rfl rfl (RL.u (.ex (.t rfl) rfl) rfl (RL.u (.ex (.t rfl) rfl) rfl (RL.u (.ex (.t rfl) rfl) rfl (RL.a rfl rfl (RL.a rfl rfl ?_)))))
       refine RL.a rfl rfl ?_
       refine RL.nil (CW.at [Y 4 (.pointer (some ⟨b2, 0, none⟩)), Y 14 (str ((unqP s).1)), Y 15 (i64 ((unqP s).2.1)), Y 16 (i64 ((unqP s).2.2))] rfl (CW.sr (RL.m rfl rfl (RL.u (.build (vs := [(0, (i64 4)), (1, (str ((unqP s).1)))]) (v := (.agg #[(i64 4), (str ((unqP s).1)), (i64 0), (i64 0), (str []), (str []), (.bool false), (i64 0), (i64 0)])) (.cons .c (.cons (.t rfl) .nil)) (fun w => by kernel_rfl)) rfl (RL.m rfl rfl (RL.m rfl rfl ?_))))))
       refine RL.st hS27 (i := 2) rfl (.t rfl) (.t rfl) Tryz.sizeOf63 rfl rfl rfl rfl rfl (fun w28 hS29 => ?_)
       refine RL.a rfl rfl (RL.a rfl rfl (RL.nil (CW.id ?_)))
       refine CW.ret (hE.R3 rfl (.boxN hS29 (i := 2) rfl rfl Tryz.isAgg63 Tryz.sizeOf63) (show RV _ _ _ (.tmp _) _ from rfl) (show RV _ _ _ (.tmp _) _ from rfl) ?_)
       replace hS29 : St w M0 w28 M17 (.box b cs12 104 :: X13 :: Rs) := hS29.erase 2 rfl
       clear hE
       have hq : tokP s = ((⟨4, (unqP s).1, ⟨0, 0, [], [], false, 0⟩, 0⟩ : Tk), (unqP s).2.1, (unqP s).2.2) := by
        unfold tokP
        rw [if_neg (by first | assumption | omega | (simp_all; done) | grind), if_neg (by first | assumption | omega | (simp_all; done) | grind), if_neg (by first | assumption | omega | (simp_all; done) | grind), if_neg (by first | assumption | omega | (simp_all; done) | grind), if_pos (by first | assumption | omega | (simp_all; done) | grind)]
        try rfl
       exact ⟨_, rfl, _, _, _, by rw [hq]; rfl, hm14, hS29, hle19⟩
      ·refine CW.sr (RL.m rfl rfl (RL.u (.eql (.t rfl) .c) rfl (RL.m rfl rfl (RL.v (.neg rfl rfl) (.move (.t rfl)) rfl (RL.v (.neg rfl rfl) (.geq (.g rfl (fun h => h)) .c) rfl (RL.v (.neg rfl rfl) (.move (.g rfl (fun h => h))) rfl (RL.v (.posG rfl rfl) (.move (.t rfl)) rfl (RL.v (.posG rfl rfl) (.leq (.g rfl (fun h => h)) .c) rfl (RL.v (.neg rfl rfl) (.and (.g rfl (fun h => h)) (.g rfl (fun h => h))) rfl (RL.u (.or (.t rfl) (.g rfl (fun h => h))) rfl (RL.a rfl rfl (RL.nil (CW.id ?_)))))))))))))
       refine CW.cond rfl ?_ ?_ <;> intro hb7 <;> try simp only [zb] at hb7
       ·refine CW.sr (RL.m rfl rfl (RL.m rfl rfl (RL.u (.lenS (.t rfl) Tryz.underlying9) rfl (RL.m rfl rfl ?_))))
        refine RL.callE hS23 .none Tryz.call47 (.cons (.t rfl) (.cons .c .nil)) (fun _ => (trimN_c s _)) rfl (fun w30 hS31 => ?_)
        refine RL.u (.lenS (.t rfl) Tryz.underlying9) rfl (RL.u (.sub (.t rfl) (.t rfl) (fun _ => by omega)) rfl (RL.u (.slSh (.t rfl) (.t rfl) Tryz.underlying9 (fun _ => by omega)) rfl (RL.a rfl rfl ?_)))
        refine RL.nil (CW.at [Y 4 (.pointer (some ⟨b2, 0, none⟩)), Y 17 (str (Eng.sub s 0 ((len s) - (len (dropN s)))))] rfl (CW.sr (RL.m rfl rfl ?_)))
        refine RL.callE hS31 .none Tryz.call80 (.cons (.t rfl) .nil) (fun _ => (read_c (Eng.sub s 0 ((len s) - (len (dropN s)))) _ (hg.low hS31.low) (by omega))) rfl (fun w32 hS33 => ?_)
        refine RL.m rfl rfl (RL.u (.ex (.t rfl) rfl) rfl (RL.u (.ex (.t rfl) rfl) rfl (RL.u (.ex (.t rfl) rfl) rfl ?_)))
        refine RL.alloc hS33 Tryz.zeroValue46 rfl (fun w34 b35 hS36 => ?_)
        refine RL.st hS36 (i := 0) rfl (.t rfl) (.t rfl) Tryz.sizeOf46 rfl rfl rfl rfl rfl (fun w37 hS38 => ?_)
        refine RL.a rfl rfl (RL.a rfl rfl ?_)
        refine RL.nil (CW.at [Y 4 (.pointer (some ⟨b2, 0, none⟩)), Y 17 (str (Eng.sub s 0 ((len s) - (len (dropN s))))), Y 18 (.pointer (some ⟨b35, 0, none⟩)), Y 19 (i64 ((read1 (Eng.sub s 0 ((len s) - (len (dropN s))))).2.1)), Y 20 (i64 ((read1 (Eng.sub s 0 ((len s) - (len (dropN s))))).2.2))] rfl (CW.seq (CW.sr (RL.m rfl rfl (RL.u (.neq (.t rfl) .c) rfl (RL.nil (CW.id ?_)))))))
        refine CW.cond rfl ?_ ?_ <;> intro hb8 <;> try simp only [zb] at hb8
        ·rw [hrn] at hb8
         refine CW.sr (RL.u (.build (vs := []) (v := (.agg #[(i64 0), (str []), (i64 0), (i64 0), (str []), (str []), (.bool false), (i64 0), (i64 0)])) .nil (fun w => by kernel_rfl)) rfl (RL.m rfl rfl (RL.m rfl rfl ?_)))
         refine RL.st hS38 (i := 3) rfl (.t rfl) (.t rfl) Tryz.sizeOf63 rfl rfl rfl rfl rfl (fun w39 hS40 => ?_)
         refine RL.a rfl rfl (RL.a rfl rfl (RL.nil (CW.id ?_)))
         refine CW.ret (hE.R3 rfl (.boxN hS40 (i := 3) rfl rfl Tryz.isAgg63 Tryz.sizeOf63) (show RV _ _ _ (.tmp _) _ from rfl) (show RV _ _ _ (.tmp _) _ from rfl) ?_)
         replace hS40 : St w M0 w39 M17 (.box b cs12 104 :: X13 :: Rs) := (hS40.erase 3 rfl).erase 0 rfl
         clear hE
         have hq : tokP s = ((⟨0, [], ⟨0, 0, [], [], false, 0⟩, 0⟩ : Tk), (read1 (Eng.sub s 0 ((len s) - (len (dropN s))))).2.1, (read1 (Eng.sub s 0 ((len s) - (len (dropN s))))).2.2) := by
          unfold tokP
          rw [if_neg (by first | assumption | omega | (simp_all; done) | grind), if_neg (by first | assumption | omega | (simp_all; done) | grind), if_neg (by first | assumption | omega | (simp_all; done) | grind), if_neg (by first | assumption | omega | (simp_all; done) | grind), if_neg (by first | assumption | omega | (simp_all; done) | grind), if_pos (by first | assumption | omega | (simp_all; done) | grind), if_pos (by first | assumption | omega | (simp_all; done) | grind)]
          try rfl
         exact ⟨_, rfl, _, _, _, by rw [hq]; rfl, hm14, hS40, hle19⟩
        ·rw [hrn] at hb8
         refine CW.skip (CW.id (CW.sr (RL.u (.loadBN (vs := (ndC ((read1 (Eng.sub s 0 ((len s) - (len (dropN s))))).1) [])) hS38 extEq (i := 0) rfl (.t rfl) Tryz.isAgg46 Tryz.sizeOf46 rfl rfl) rfl (RL.u (.build (vs := [(0, (i64 5)), (2, (ndV ((read1 (Eng.sub s 0 ((len s) - (len (dropN s))))).1)))]) (v := (.agg ⟨((i64 5) :: ((str []) :: (ndC ((read1 (Eng.sub s 0 ((len s) - (len (dropN s))))).1) ((i64 0) :: []))))⟩)) (.cons .c (.cons (.t rfl) .nil)) (fun w => by kernel_rfl)) rfl (RL.m rfl rfl (RL.u (.lenS (.t rfl) Tryz.underlying9) rfl ?_))))))
         refine RL.st hS38 (i := 3) rfl (.t rfl) (.t rfl) Tryz.sizeOf63 rfl rfl rfl rfl rfl (fun w41 hS42 => ?_)
         refine RL.a rfl rfl (RL.u (.assign .c) rfl (RL.nil (CW.id ?_)))
         refine CW.ret (hE.R3 rfl (.boxN hS42 (i := 3) rfl rfl Tryz.isAgg63 Tryz.sizeOf63) (show RV _ _ _ (.tmp _) _ from rfl) (show RV _ _ _ (.tmp _) _ from rfl) ?_)
         replace hS42 : St w M0 w41 M17 (.box b cs12 104 :: X13 :: Rs) := (hS42.erase 3 rfl).erase 0 rfl
         clear hE
         have hq : tokP s = ((⟨5, [], (read1 (Eng.sub s 0 ((len s) - (len (dropN s))))).1, 0⟩ : Tk), len (Eng.sub s 0 ((len s) - (len (dropN s)))), 0) := by
          unfold tokP
          rw [if_neg (by first | assumption | omega | (simp_all; done) | grind), if_neg (by first | assumption | omega | (simp_all; done) | grind), if_neg (by first | assumption | omega | (simp_all; done) | grind), if_neg (by first | assumption | omega | (simp_all; done) | grind), if_neg (by first | assumption | omega | (simp_all; done) | grind), if_pos (by first | assumption | omega | (simp_all; done) | grind), if_neg (by first | assumption | omega | (simp_all; done) | grind)]
          try rfl
         exact ⟨_, rfl, _, _, _, by rw [hq]; rfl, hm14, hS42, hle19⟩
       ·refine CW.skip (CW.id (CW.sr (RL.u (.build (vs := []) (v := (.agg #[(i64 0), (str []), (i64 0), (i64 0), (str []), (str []), (.bool false), (i64 0), (i64 0)])) .nil (fun w => by kernel_rfl)) rfl ?_)))
        refine RL.st hS23 (i := 2) rfl (.t rfl) (.t rfl) Tryz.sizeOf63 rfl rfl rfl rfl rfl (fun w43 hS44 => ?_)
        refine RL.u (.assign .c) rfl (RL.u (.assign .c) rfl (RL.nil (CW.id ?_)))
        refine CW.ret (hE.R3 rfl (.boxN hS44 (i := 2) rfl rfl Tryz.isAgg63 Tryz.sizeOf63) (show RV _ _ _ (.tmp _) _ from rfl) (show RV _ _ _ (.tmp _) _ from rfl) ?_)
        replace hS44 : St w M0 w43 M17 (.box b cs12 104 :: X13 :: Rs) := hS44.erase 2 rfl
        clear hE
        have hq : tokP s = ((⟨0, [], ⟨0, 0, [], [], false, 0⟩, 0⟩ : Tk), 0, 1) := by
         unfold tokP
         rw [if_neg (by first | assumption | omega | (simp_all; done) | grind), if_neg (by first | assumption | omega | (simp_all; done) | grind), if_neg (by first | assumption | omega | (simp_all; done) | grind), if_neg (by first | assumption | omega | (simp_all; done) | grind), if_neg (by first | assumption | omega | (simp_all; done) | grind), if_neg (by first | assumption | omega | (simp_all; done) | grind)]
         try rfl
        exact ⟨_, rfl, _, _, _, by rw [hq]; rfl, hm14, hS44, hle19⟩
 ·refine CW.skip (CW.id (CW.seq (CW.sr (RL.m rfl rfl (RL.m rfl rfl ?_)))))
  replace hS3 : St w M0 w1 M (.box b cs 104 :: X :: .box b2 [(i64 0), (str []), (i64 0), (i64 0), (str []), (str []), (.bool false), (i64 0), (i64 0)] 63 :: Rs) := (hS3.front 2 rfl rfl).front 2 rfl rfl
  refine RL.callP Tryz.call79 (.cons (.t rfl) (.cons (.t rfl) .nil)) (at_c (Rs := (.box b2 [(i64 0), (str []), (i64 0), (i64 0), (str []), (str []), (.bool false), (i64 0), (i64 0)] 63 :: Rs)) b cs X s hS3 (by assumption) hg (by omega) (by omega)) rfl ?_
  rintro v48 w49 ⟨cs45, X46, M50, rfl, hm47, hS51, hle52⟩
  replace hS51 : St w M0 w49 M50 (.box b cs45 104 :: X46 :: .box b2 [(i64 0), (str []), (i64 0), (i64 0), (str []), (str []), (.bool false), (i64 0), (i64 0)] 63 :: Rs) := hS51
  refine RL.a rfl rfl ?_
  refine RL.nil (CW.at [Y 1 (str s), Y 4 (.pointer (some ⟨b2, 0, none⟩)), Y 11 (str (markP s))] rfl (CW.sr (RL.m rfl rfl (RL.u (.sneq (.t rfl) .c) rfl (RL.nil (CW.id ?_))))))
  refine CW.cond rfl ?_ ?_ <;> intro hb9 <;> try simp only [zb] at hb9
  ·refine CW.sr (RL.m rfl rfl (RL.u (.build (vs := [(0, (i64 1)), (1, (str (markP s)))]) (v := (.agg #[(i64 1), (str (markP s)), (i64 0), (i64 0), (str []), (str []), (.bool false), (i64 0), (i64 0)])) (.cons .c (.cons (.t rfl) .nil)) (fun w => by kernel_rfl)) rfl (RL.m rfl rfl (RL.u (.lenS (.t rfl) Tryz.underlying9) rfl ?_))))
   refine RL.st hS51 (i := 2) rfl (.t rfl) (.t rfl) Tryz.sizeOf63 rfl rfl rfl rfl rfl (fun w53 hS54 => ?_)
   refine RL.a rfl rfl (RL.u (.assign .c) rfl (RL.nil (CW.id ?_)))
   refine CW.ret (hE.R3 rfl (.boxN hS54 (i := 2) rfl rfl Tryz.isAgg63 Tryz.sizeOf63) (show RV _ _ _ (.tmp _) _ from rfl) (show RV _ _ _ (.tmp _) _ from rfl) ?_)
   replace hS54 : St w M0 w53 M50 (.box b cs45 104 :: X46 :: Rs) := hS54.erase 2 rfl
   clear hE
   have hq : tokP s = ((⟨1, markP s, ⟨0, 0, [], [], false, 0⟩, 0⟩ : Tk), len (markP s), 0) := by
    unfold tokP
    rw [if_neg (by first | assumption | omega | (simp_all; done) | grind), if_neg (by first | assumption | omega | (simp_all; done) | grind), if_pos (by first | assumption | omega | (simp_all; done) | grind)]
    try rfl
   exact ⟨_, rfl, _, _, _, by rw [hq]; rfl, hm47, hS54, hle52⟩
  ·refine CW.skip (CW.id (CW.seq (CW.sr (RL.m rfl rfl ?_))))
   refine RL.callE hS51 .none Tryz.call76 (.cons (.t rfl) .nil) (fun _ => (word_c s _ (by omega))) rfl (fun w55 hS56 => ?_)
   refine RL.a rfl rfl ?_
   refine RL.nil (CW.at [Y 1 (str s), Y 4 (.pointer (some ⟨b2, 0, none⟩)), Y 12 (str (wordP s))] rfl (CW.sr (RL.m rfl rfl (RL.u (.sneq (.t rfl) .c) rfl (RL.nil (CW.id ?_))))))
   refine CW.cond rfl ?_ ?_ <;> intro hb10 <;> try simp only [zb] at hb10
   ·refine CW.sr (RL.m rfl rfl (RL.u (.build (vs := [(0, (i64 2)), (1, (str (wordP s)))]) (v := (.agg #[(i64 2), (str (wordP s)), (i64 0), (i64 0), (str []), (str []), (.bool false), (i64 0), (i64 0)])) (.cons .c (.cons (.t rfl) .nil)) (fun w => by kernel_rfl)) rfl (RL.m rfl rfl (RL.u (.lenS (.t rfl) Tryz.underlying9) rfl ?_))))
    refine RL.st hS56 (i := 2) rfl (.t rfl) (.t rfl) Tryz.sizeOf63 rfl rfl rfl rfl rfl (fun w57 hS58 => ?_)
    refine RL.a rfl rfl (RL.u (.assign .c) rfl (RL.nil (CW.id ?_)))
    refine CW.ret (hE.R3 rfl (.boxN hS58 (i := 2) rfl rfl Tryz.isAgg63 Tryz.sizeOf63) (show RV _ _ _ (.tmp _) _ from rfl) (show RV _ _ _ (.tmp _) _ from rfl) ?_)
    replace hS58 : St w M0 w57 M50 (.box b cs45 104 :: X46 :: Rs) := hS58.erase 2 rfl
    clear hE
    have hq : tokP s = ((⟨2, wordP s, ⟨0, 0, [], [], false, 0⟩, 0⟩ : Tk), len (wordP s), 0) := by
     unfold tokP
     rw [if_neg (by first | assumption | omega | (simp_all; done) | grind), if_neg (by first | assumption | omega | (simp_all; done) | grind), if_neg (by first | assumption | omega | (simp_all; done) | grind), if_pos (by first | assumption | omega | (simp_all; done) | grind)]
     try rfl
    exact ⟨_, rfl, _, _, _, by rw [hq]; rfl, hm47, hS58, hle52⟩
   ·refine CW.skip (CW.id (CW.seq (CW.sr (RL.m rfl rfl (RL.u (.idxS (.t rfl) .c Tryz.underlying9 (fun _ => by omega)) rfl (RL.a rfl rfl (RL.nil (CW.id ?_))))))))
    refine CW.block (CW.sr (RL.m rfl rfl (RL.u (.eql (.t rfl) .c) rfl (RL.a rfl rfl (RL.nil (CW.id ?_))))))
    refine CW.cond rfl ?_ ?_ <;> intro hb11 <;> try simp only [zb] at hb11
    ·refine CW.sr (RL.m rfl rfl ?_)
     refine RL.callE hS56 .none Tryz.call78 (.cons (.t rfl) .nil) (fun _ => (unquote_c s _ (hg.low hS56.low) (by first | omega | exact Int.le_trans (from_bd _ _).2 (by omega)))) rfl (fun w59 hS60 => ?_)
     refine RL.m rfl rfl (RL.u (.ex (.t rfl) rfl) rfl (RL.u (.ex (.t rfl) rfl) rfl (RL.u (.ex (.t rfl) rfl) rfl (RL.a rfl rfl (RL.a rfl rfl ?_)))))
     refine RL.a rfl rfl ?_
     refine RL.nil (CW.at [Y 4 (.pointer (some ⟨b2, 0, none⟩)), Y 14 (str ((unqP s).1)), Y 15 (i64 ((unqP s).2.1)), Y 16 (i64 ((unqP s).2.2))] rfl (CW.sr (RL.m rfl rfl (RL.u (.build (vs := [(0, (i64 4)), (1, (str ((unqP s).1)))]) (v := (.agg #[(i64 4), (str ((unqP s).1)), (i64 0), (i64 0), (str []), (str []), (.bool false), (i64 0), (i64 0)])) (.cons .c (.cons (.t rfl) .nil)) (fun w => by kernel_rfl)) rfl (RL.m rfl rfl (RL.m rfl rfl ?_))))))
     refine RL.st hS60 (i := 2) rfl (.t rfl) (.t rfl) Tryz.sizeOf63 rfl rfl rfl rfl rfl (fun w61 hS62 => ?_)
     refine RL.a rfl rfl (RL.a rfl rfl (RL.nil (CW.id ?_)))
     refine CW.ret (hE.R3 rfl (.boxN hS62 (i := 2) rfl rfl Tryz.isAgg63 Tryz.sizeOf63) (show RV _ _ _ (.tmp _) _ from rfl) (show RV _ _ _ (.tmp _) _ from rfl) ?_)
     replace hS62 : St w M0 w61 M50 (.box b cs45 104 :: X46 :: Rs) := hS62.erase 2 rfl
     clear hE
     have hq : tokP s = ((⟨4, (unqP s).1, ⟨0, 0, [], [], false, 0⟩, 0⟩ : Tk), (unqP s).2.1, (unqP s).2.2) := by
      unfold tokP
      rw [if_neg (by first | assumption | omega | (simp_all; done) | grind), if_neg (by first | assumption | omega | (simp_all; done) | grind), if_neg (by first | assumption | omega | (simp_all; done) | grind), if_neg (by first | assumption | omega | (simp_all; done) | grind), if_pos (by first | assumption | omega | (simp_all; done) | grind)]
      try rfl
     exact ⟨_, rfl, _, _, _, by rw [hq]; rfl, hm47, hS62, hle52⟩
    ·refine CW.sr (RL.m rfl rfl (RL.u (.eql (.t rfl) .c) rfl (RL.m rfl rfl (RL.v (.neg rfl rfl) (.move (.t rfl)) rfl (RL.v (.neg rfl rfl) (.geq (.g rfl (fun h => h)) .c) rfl (RL.v (.neg rfl rfl) (.move (.g rfl (fun h => h))) rfl (RL.v (.posG rfl rfl) (.move (.t rfl)) rfl (RL.v (.posG rfl rfl) (.leq (.g rfl (fun h => h)) .c) rfl (RL.v (.neg rfl rfl) (.and (.g rfl (fun h => h)) (.g rfl (fun h => h))) rfl (RL.u (.or (.t rfl) (.g rfl (fun h => h))) rfl (RL.a rfl rfl (RL.nil (CW.id ?_)))))))))))))
     refine CW.cond rfl ?_ ?_ <;> intro hb12 <;> try simp only [zb] at hb12
     ·refine CW.sr (RL.m rfl rfl (RL.m rfl rfl (RL.u (.lenS (.t rfl) Tryz.underlying9) rfl (RL.m rfl rfl ?_))))
      refine RL.callE hS56 .none Tryz.call47 (.cons (.t rfl) (.cons .c .nil)) (fun _ => (trimN_c s _)) rfl (fun w63 hS64 => ?_)
      refine RL.u (.lenS (.t rfl) Tryz.underlying9) rfl (RL.u (.sub (.t rfl) (.t rfl) (fun _ => by omega)) rfl (RL.u (.slSh (.t rfl) (.t rfl) Tryz.underlying9 (fun _ => by omega)) rfl (RL.a rfl rfl ?_)))
      refine RL.nil (CW.at [Y 4 (.pointer (some ⟨b2, 0, none⟩)), Y 17 (str (Eng.sub s 0 ((len s) - (len (dropN s)))))] rfl (CW.sr (RL.m rfl rfl ?_)))
      refine RL.callE hS64 .none Tryz.call80 (.cons (.t rfl) .nil) (fun _ => (read_c (Eng.sub s 0 ((len s) - (len (dropN s)))) _ (hg.low hS64.low) (by omega))) rfl (fun w65 hS66 => ?_)
      refine RL.m rfl rfl (RL.u (.ex (.t rfl) rfl) rfl (RL.u (.ex (.t rfl) rfl) rfl (RL.u (.ex (.t rfl) rfl) rfl ?_)))
      refine RL.alloc hS66 Tryz.zeroValue46 rfl (fun w67 b68 hS69 => ?_)
      refine RL.st hS69 (i := 0) rfl (.t rfl) (.t rfl) Tryz.sizeOf46 rfl rfl rfl rfl rfl (fun w70 hS71 => ?_)
      refine RL.a rfl rfl (RL.a rfl rfl ?_)
      refine RL.nil (CW.at [Y 4 (.pointer (some ⟨b2, 0, none⟩)), Y 17 (str (Eng.sub s 0 ((len s) - (len (dropN s))))), Y 18 (.pointer (some ⟨b68, 0, none⟩)), Y 19 (i64 ((read1 (Eng.sub s 0 ((len s) - (len (dropN s))))).2.1)), Y 20 (i64 ((read1 (Eng.sub s 0 ((len s) - (len (dropN s))))).2.2))] rfl (CW.seq (CW.sr (RL.m rfl rfl (RL.u (.neq (.t rfl) .c) rfl (RL.nil (CW.id ?_)))))))
      refine CW.cond rfl ?_ ?_ <;> intro hb13 <;> try simp only [zb] at hb13
      ·rw [hrn] at hb13
       refine CW.sr (RL.u (.build (vs := []) (v := (.agg #[(i64 0), (str []), (i64 0), (i64 0), (str []), (str []), (.bool false), (i64 0), (i64 0)])) .nil (fun w => by kernel_rfl)) rfl (RL.m rfl rfl (RL.m rfl rfl ?_)))
       refine RL.st hS71 (i := 3) rfl (.t rfl) (.t rfl) Tryz.sizeOf63 rfl rfl rfl rfl rfl (fun w72 hS73 => ?_)
       refine RL.a rfl rfl (RL.a rfl rfl (RL.nil (CW.id ?_)))
       refine CW.ret (hE.R3 rfl (.boxN hS73 (i := 3) rfl rfl Tryz.isAgg63 Tryz.sizeOf63) (show RV _ _ _ (.tmp _) _ from rfl) (show RV _ _ _ (.tmp _) _ from rfl) ?_)
       replace hS73 : St w M0 w72 M50 (.box b cs45 104 :: X46 :: Rs) := (hS73.erase 3 rfl).erase 0 rfl
       clear hE
       have hq : tokP s = ((⟨0, [], ⟨0, 0, [], [], false, 0⟩, 0⟩ : Tk), (read1 (Eng.sub s 0 ((len s) - (len (dropN s))))).2.1, (read1 (Eng.sub s 0 ((len s) - (len (dropN s))))).2.2) := by
        unfold tokP
        rw [if_neg (by first | assumption | omega | (simp_all; done) | grind), if_neg (by first | assumption | omega | (simp_all; done) | grind), if_neg (by first | assumption | omega | (simp_all; done) | grind), if_neg (by first | assumption | omega | (simp_all; done) | grind), if_neg (by first | assumption | omega | (simp_all; done) | grind), if_pos (by first | assumption | omega | (simp_all; done) | grind), if_pos (by first | assumption | omega | (simp_all; done) | grind)]
        try rfl
       exact ⟨_, rfl, _, _, _, by rw [hq]; rfl, hm47, hS73, hle52⟩
      ·rw [hrn] at hb13
       refine CW.skip (CW.id (CW.sr (RL.u (.loadBN (vs := (ndC ((read1 (Eng.sub s 0 ((len s) - (len (dropN s))))).1) [])) hS71 extEq (i := 0) rfl (.t rfl) Tryz.isAgg46 Tryz.sizeOf46 rfl rfl) rfl (RL.u (.build (vs := [(0, (i64 5)), (2, (ndV ((read1 (Eng.sub s 0 ((len s) - (len (dropN s))))).1)))]) (v := (.agg ⟨((i64 5) :: ((str []) :: (ndC ((read1 (Eng.sub s 0 ((len s) - (len (dropN s))))).1) ((i64 0) :: []))))⟩)) (.cons .c (.cons (.t rfl) .nil)) (fun w => by kernel_rfl)) rfl (RL.m rfl rfl (RL.u (.lenS (.t rfl) Tryz.underlying9) rfl ?_))))))
       refine RL.st hS71 (i := 3) rfl (.t rfl) (.t rfl) Tryz.sizeOf63 rfl rfl rfl rfl rfl (fun w74 hS75 => ?_)
       refine RL.a rfl rfl (RL.u (.assign .c) rfl (RL.nil (CW.id ?_)))
       refine CW.ret (hE.R3 rfl (.boxN hS75 (i := 3) rfl rfl Tryz.isAgg63 Tryz.sizeOf63) (show RV _ _ _ (.tmp _) _ from rfl) (show RV _ _ _ (.tmp _) _ from rfl) ?_)
       replace hS75 : St w M0 w74 M50 (.box b cs45 104 :: X46 :: Rs) := (hS75.erase 3 rfl).erase 0 rfl
       clear hE
       have hq : tokP s = ((⟨5, [], (read1 (Eng.sub s 0 ((len s) - (len (dropN s))))).1, 0⟩ : Tk), len (Eng.sub s 0 ((len s) - (len (dropN s)))), 0) := by
        unfold tokP
        rw [if_neg (by first | assumption | omega | (simp_all; done) | grind), if_neg (by first | assumption | omega | (simp_all; done) | grind), if_neg (by first | assumption | omega | (simp_all; done) | grind), if_neg (by first | assumption | omega | (simp_all; done) | grind), if_neg (by first | assumption | omega | (simp_all; done) | grind), if_pos (by first | assumption | omega | (simp_all; done) | grind), if_neg (by first | assumption | omega | (simp_all; done) | grind)]
        try rfl
       exact ⟨_, rfl, _, _, _, by rw [hq]; rfl, hm47, hS75, hle52⟩
     ·refine CW.skip (CW.id (CW.sr (RL.u (.build (vs := []) (v := (.agg #[(i64 0), (str []), (i64 0), (i64 0), (str []), (str []), (.bool false), (i64 0), (i64 0)])) .nil (fun w => by kernel_rfl)) rfl ?_)))
      refine RL.st hS56 (i := 2) rfl (.t rfl) (.t rfl) Tryz.sizeOf63 rfl rfl rfl rfl rfl (fun w76 hS77 => ?_)
      refine RL.u (.assign .c) rfl (RL.u (.assign .c) rfl (RL.nil (CW.id ?_)))
      refine CW.ret (hE.R3 rfl (.boxN hS77 (i := 2) rfl rfl Tryz.isAgg63 Tryz.sizeOf63) (show RV _ _ _ (.tmp _) _ from rfl) (show RV _ _ _ (.tmp _) _ from rfl) ?_)
      replace hS77 : St w M0 w76 M50 (.box b cs45 104 :: X46 :: Rs) := hS77.erase 2 rfl
      clear hE
      have hq : tokP s = ((⟨0, [], ⟨0, 0, [], [], false, 0⟩, 0⟩ : Tk), 0, 1) := by
       unfold tokP
       rw [if_neg (by first | assumption | omega | (simp_all; done) | grind), if_neg (by first | assumption | omega | (simp_all; done) | grind), if_neg (by first | assumption | omega | (simp_all; done) | grind), if_neg (by first | assumption | omega | (simp_all; done) | grind), if_neg (by first | assumption | omega | (simp_all; done) | grind), if_neg (by first | assumption | omega | (simp_all; done) | grind)]
       try rfl
      exact ⟨_, rfl, _, _, _, by rw [hq]; rfl, hm47, hS77, hle52⟩

end Go.Proofs.YtmjpjbmeamnfpaaGreatDoor
set_option maxRecDepth 100000
namespace Go.Proofs.YtmjpjbmeamnfpaaGreatDoor
open Go.Eng

/- loupe/lex.Lex -/
theorem lexP_c (M : Mem) (s : Str) (w : World) (hM : Sat w M) (hg : Gl w) (hb : len s ≤ 1099511627776) :
  Calls Tryz.prog 22 [(str s)].toArray w fun e w' => ∃ v M', e = .returned v ∧ (∃ u, v = .tuple #[u, i64 (lexP s).2.1, i64 (lexP s).2.2] ∧ Sl M' 9 (lexP s).1.length u ((lexP s).1.flatMap Tk.cells)) ∧ Grow w M w' M' := by
 refine CW.enter1 Tryz.func22 rfl Tryz.ntmps22 (Nat.le_of_ble_eq_true rfl) fun Q hE => ?_
 have := len_nonneg s
 have hbt := blankTo_bd s 0 (Int.le_refl 0) this
 have hS : St w M w M [] := St.start hM
 refine CW.weaken [0] (L' := [Y 0 (str s)]) ?_ rfl
 refine CW.sr ?_
 have hS1 := hS.ownNil 63 9
 replace hS1 : St w M w M [.own 63 9 (.slice none 0 0) (([] : List Tk)).length ((([] : List Tk)).flatMap Tk.cells)] := hS1
 refine RL.u (.assign .c) rfl (RL.u (.assign .c) rfl (RL.u (.assign .c) rfl (RL.nil (CW.id ?_))))
 refine CW.sr ?_
 refine RL.alloc hS1 Tryz.zeroValue104 rfl (fun w2 b3 hS4 => (RL.nil (CW.id ?_)))
 refine CW.sr ?_
 have hS5 := hS4.ownNil 63 9
 replace hS5 : St w M w2 M [.own 63 9 (.slice none 0 0) (([] : List Tk)).length ((([] : List Tk)).flatMap Tk.cells), .box b3 [(.int .u32 0), (.int .i32 0), (.int .u32 0), (.map none)] 104, .own 63 9 (.slice none 0 0) (([] : List Tk)).length ((([] : List Tk)).flatMap Tk.cells)] := hS5
 refine RL.u (.assign .c) rfl (RL.nil (CW.id ?_))
 refine CW.sr (RL.m rfl rfl ?_)
 refine RL.callE hS5 .none Tryz.call47 (.cons (.t rfl) (.cons .c .nil)) (fun _ => (trimB_c s _)) rfl (fun w6 hS7 => ?_)
 refine RL.a rfl rfl ?_
 refine RL.nil (CW.at [Y 0 (str s), Y 5 (.pointer (some ⟨b3, 0, none⟩)), Y 6 (.slice none 0 0), Y 7 (str (dropB s))] rfl (CW.seq (CW.block ?_)))
 have hS8 := hS7.ownNil 9 1
 replace hS8 : St w M w6 M [.own 9 1 (.slice none 0 0) (([] : List Str)).length ((([] : List Str)).flatMap strC), .own 63 9 (.slice none 0 0) (([] : List Tk)).length ((([] : List Tk)).flatMap Tk.cells), .box b3 [(.int .u32 0), (.int .i32 0), (.int .u32 0), (.map none)] 104, .own 63 9 (.slice none 0 0) (([] : List Tk)).length ((([] : List Tk)).flatMap Tk.cells)] := hS8
 refine CW.loop (σ := Nat × Int × Str × List Tk × Value × List Value × HO × Mem) (fun (f, i, r, acc, va, cs, X, Ml) => [Y 0 (str s), Y 5 (.pointer (some ⟨b3, 0, none⟩)), Y 6 va, Y 7 (str r)]) (fun (f, i, r, acc, va, cs, X, Ml) wl => St w M wl Ml [X, .own 63 9 va acc.length (acc.flatMap Tk.cells), .box b3 cs 104, .own 63 9 (.slice none 0 0) (([] : List Tk)).length ((([] : List Tk)).flatMap Tk.cells)] ∧ 0 ≤ i ∧ i ≤ len s ∧ r = from' s i ∧ lexGo f s i acc = lexP s ∧ (len s - i).toNat ≤ f ∧ len acc ≤ i ∧ MarkOk Ml cs X) (fun (f, i, r, acc, va, cs, X, Ml) => (len s - i).toNat) ((s.length, blankTo s 0, dropB s, [], .slice none 0 0, [.int .u32 0, .int .i32 0, .int .u32 0, .map none], .own 9 1 (.slice none 0 0) 0 [], M)) [0, 5, 6, 7] rfl ?_ ?_
 ·refine ⟨hS8, ?_⟩; exact ⟨by omega, by omega, dropB_from s 0 (Int.le_refl 0), rfl, by unfold len; omega, by rw [len_nil]; omega, .inl ⟨rfl, rfl⟩⟩
 ·rintro ⟨f, i, r, acc, va, cs, X, Ml⟩ wl ⟨hS9, h0, h1, hr, hF, hf, hacc, hmk⟩
  have hl := from_len s i h0 h1
  have hlr : len r = len s - i := by rw [hr]; exact hl
  have hat : len s - len r = i := by omega
  have hdr : ∀ n, 0 ≤ n → dropB (from' r n) = from' s (blankTo s (i + n)) := fun n hn => by rw [hr, from_from s i n h0 hn, dropB_from _ _ (by omega)]
  refine CW.seq (CW.sr (RL.m rfl rfl (RL.u (.sneq (.t rfl) .c) rfl (RL.nil (CW.id ?_)))))
  refine CW.cond rfl ?_ ?_ <;> intro hb1 <;> try simp only [zb] at hb1
  ·have hlt : i < len s := by have := len_pos hb1; omega
   have htb := tokP_bd (s := r) (by omega)
   refine CW.skip (CW.id (CW.block (CW.sr (RL.m rfl rfl (RL.u (.lenS (.t rfl) Tryz.underlying9) rfl (RL.m rfl rfl (RL.u (.lenS (.t rfl) Tryz.underlying9) rfl (RL.u (.sub (.t rfl) (.t rfl) (fun _ => by omega)) rfl (RL.a rfl rfl (RL.nil (CW.id ?_)))))))))))
   refine CW.sr (RL.m rfl rfl ?_)
   replace hS9 : St w M wl Ml [.box b3 cs 104, X, .own 63 9 va acc.length (acc.flatMap Tk.cells), .own 63 9 (.slice none 0 0) (([] : List Tk)).length ((([] : List Tk)).flatMap Tk.cells)] := (hS9.front 0 rfl rfl).front 2 rfl rfl
   refine RL.callP Tryz.call48 (.cons (.t rfl) (.cons (.t rfl) .nil)) (token_c (Rs := [.own 63 9 va acc.length (acc.flatMap Tk.cells), .own 63 9 (.slice none 0 0) (([] : List Tk)).length ((([] : List Tk)).flatMap Tk.cells)]) b3 cs X r hS9 (by assumption) hg (by omega) (by omega)) rfl ?_
   rintro v13 w14 ⟨cs10, X11, M15, rfl, hm12, hS16, hle17⟩
   replace hS16 : St w M w14 M15 [.box b3 cs10 104, X11, .own 63 9 va acc.length (acc.flatMap Tk.cells), .own 63 9 (.slice none 0 0) (([] : List Tk)).length ((([] : List Tk)).flatMap Tk.cells)] := hS16
   refine RL.m rfl rfl (RL.u (.ex (.t rfl) rfl) rfl (RL.u (.ex (.t rfl) rfl) rfl (RL.u (.ex (.t rfl) rfl) rfl ?_)))
   refine RL.alloc hS16 Tryz.zeroValue63 rfl (fun w18 b19 hS20 => ?_)
   refine RL.st hS20 (i := 0) rfl (.t rfl) (.t rfl) Tryz.sizeOf63 rfl rfl rfl rfl rfl (fun w21 hS22 => ?_)
   refine RL.a rfl rfl (RL.a rfl rfl ?_)
   refine RL.nil (CW.at [Y 0 (str s), Y 5 (.pointer (some ⟨b3, 0, none⟩)), Y 6 va, Y 7 (str r), Y 8 (i64 ((len s) - (len r))), Y 9 (.pointer (some ⟨b19, 0, none⟩)), Y 10 (i64 ((tokP r).2.1)), Y 11 (i64 ((tokP r).2.2))] rfl (CW.seq (CW.sr (RL.m rfl rfl (RL.u (.neq (.t rfl) .c) rfl (RL.nil (CW.id ?_)))))))
   refine CW.cond rfl ?_ ?_ <;> intro hb2 <;> try simp only [zb] at hb2
   ·refine CW.sr (RL.m rfl rfl (RL.m rfl rfl (RL.u (.add (.t rfl) (.t rfl) (fun _ => by omega)) rfl (RL.m rfl rfl ?_))))
    have hS23 := hS22.ownNil 63 9
    replace hS23 : St w M w21 M15 [.own 63 9 (.slice none 0 0) (([] : List Tk)).length ((([] : List Tk)).flatMap Tk.cells), .box b19 (tkC ((tokP r).1) []) 63, .box b3 cs10 104, X11, .own 63 9 va acc.length (acc.flatMap Tk.cells), .own 63 9 (.slice none 0 0) (([] : List Tk)).length ((([] : List Tk)).flatMap Tk.cells)] := hS23
    refine RL.u (.assign .c) rfl (RL.a rfl rfl (RL.a rfl rfl (RL.nil (CW.id ?_))))
    refine CW.ret (hE.r3 rfl rfl rfl rfl ?_)
    have hq : lexP s = ([], len s - len r + (tokP r).2.1, (tokP r).2.2) := by rw [← hF, lexGo_eq hf hlt, ← hr, if_pos (by simpa using hb2), hat]
    exact ⟨_, _, rfl, ⟨_, by rw [hq], by rw [hq]; exact Sl.nil _ 9⟩, hS23.done⟩
   ·have hn1 := htb.2.2.1 hb2
    have hbb := blankTo_bd s (i + (tokP r).2.1) (by omega) (by omega)
    refine CW.skip (CW.id (CW.sr (RL.m rfl rfl (RL.u (.fldA (q := ⟨b19, 8, none⟩) (.t rfl) (fun w => by kernel_rfl)) rfl ?_))))
    refine RL.st hS22 (i := 0) rfl (.t rfl) (.t rfl) Tryz.sizeOf3 rfl rfl rfl rfl rfl (fun w24 hS25 => (RL.nil (CW.id ?_)))
    refine CW.sr (RL.m rfl rfl (RL.u (.loadBN (vs := ((i64 (((tokP r).1).kind)) :: ((str (((tokP r).1).s)) :: (ndC (((tokP r).1).c) ((i64 ((len s) - (len r))) :: []))))) hS25 extEq (i := 0) rfl (.t rfl) Tryz.isAgg63 Tryz.sizeOf63 rfl rfl) rfl ?_))
    refine RL.buildSlice (n := 1) (sz := 9) (e := 63) (vs := [(0, (.agg ⟨((i64 (((tokP r).1).kind)) :: ((str (((tokP r).1).s)) :: (ndC (((tokP r).1).c) ((i64 ((len s) - (len r))) :: []))))⟩))]) (cs := [(i64 (((tokP r).1).kind)), (str (((tokP r).1).s)), (i64 (((tokP r).1).c.kind)), (i64 (((tokP r).1).c.many)), (str (((tokP r).1).c.name)), (str (((tokP r).1).c.s)), (.bool (((tokP r).1).c.neg)), (i64 (((tokP r).1).c.e)), (i64 ((len s) - (len r)))]) hS25 (.cons (.t rfl) .nil) rfl rfl (fun w => by kernel_rfl) rfl (fun v26 w27 M28 hS29 hle30 => ?_)
    replace hS29 : St w M w27 M28 [.own 63 9 v26 (([(⟨((tokP r).1).kind, ((tokP r).1).s, ((tokP r).1).c, (len s) - (len r)⟩ : Tk)] : List Tk)).length ((([(⟨((tokP r).1).kind, ((tokP r).1).s, ((tokP r).1).c, (len s) - (len r)⟩ : Tk)] : List Tk)).flatMap Tk.cells), .box b19 ((i64 (((tokP r).1).kind)) :: ((str (((tokP r).1).s)) :: (ndC (((tokP r).1).c) ((i64 ((len s) - (len r))) :: [])))) 63, .box b3 cs10 104, X11, .own 63 9 va acc.length (acc.flatMap Tk.cells), .own 63 9 (.slice none 0 0) (([] : List Tk)).length ((([] : List Tk)).flatMap Tk.cells)] := hS29
    refine RL.append1 (f := Tk.cells) (l := acc) (y := (⟨((tokP r).1).kind, ((tokP r).1).s, ((tokP r).1).c, (len s) - (len r)⟩ : Tk)) hS29 (k := 4) rfl (.t rfl) (.t rfl) (hS29.sl (i := 0) rfl) Tryz.underlying52 Tryz.type63 rfl rfl rfl Tk.cells_one (by' := 96) rfl rfl (by omega) rfl (Hs' := fun v' => [.own 63 9 v26 (([(⟨((tokP r).1).kind, ((tokP r).1).s, ((tokP r).1).c, (len s) - (len r)⟩ : Tk)] : List Tk)).length ((([(⟨((tokP r).1).kind, ((tokP r).1).s, ((tokP r).1).c, (len s) - (len r)⟩ : Tk)] : List Tk)).flatMap Tk.cells), .box b19 ((i64 (((tokP r).1).kind)) :: ((str (((tokP r).1).s)) :: (ndC (((tokP r).1).c) ((i64 ((len s) - (len r))) :: [])))) 63, .box b3 cs10 104, X11, .own 63 9 v' (acc ++ [(⟨((tokP r).1).kind, ((tokP r).1).s, ((tokP r).1).c, (len s) - (len r)⟩ : Tk)]).length ((acc ++ [(⟨((tokP r).1).kind, ((tokP r).1).s, ((tokP r).1).c, (len s) - (len r)⟩ : Tk)]).flatMap Tk.cells), .own 63 9 (.slice none 0 0) (([] : List Tk)).length ((([] : List Tk)).flatMap Tk.cells)]) (fun _ => rfl) (fun v31 w32 M33 hS34 hle35 => ?_)
    replace hS34 := hS34.erase 0 rfl
    refine RL.a rfl rfl (RL.nil (CW.id ?_))
    refine CW.region (RL.m rfl rfl (RL.m rfl rfl (RL.u (.slSl (.t rfl) (.t rfl) Tryz.underlying9 (fun _ => by omega)) rfl ?_)))
    refine RL.callE hS34 .none Tryz.call47 (.cons (.t rfl) (.cons .c .nil)) (fun _ => (trimB_c (Eng.from' r ((tokP r).2.1)) _)) rfl (fun w36 hS37 => ?_)
    refine RL.a rfl rfl ?_
    replace hS37 : St w M w36 M33 [.own 63 9 (.slice none 0 0) (([] : List Tk)).length ((([] : List Tk)).flatMap Tk.cells), .box b3 cs10 104, X11, .own 63 9 v31 (acc ++ [(⟨((tokP r).1).kind, ((tokP r).1).s, ((tokP r).1).c, (len s) - (len r)⟩ : Tk)]).length ((acc ++ [(⟨((tokP r).1).kind, ((tokP r).1).s, ((tokP r).1).c, (len s) - (len r)⟩ : Tk)]).flatMap Tk.cells)] := (hS37.erase 0 rfl).front 3 rfl rfl
    replace hS37 : St w M w36 M33 [.own 63 9 v31 (acc ++ [(⟨((tokP r).1).kind, ((tokP r).1).s, ((tokP r).1).c, (len s) - (len r)⟩ : Tk)]).length ((acc ++ [(⟨((tokP r).1).kind, ((tokP r).1).s, ((tokP r).1).c, (len s) - (len r)⟩ : Tk)]).flatMap Tk.cells), .box b3 cs10 104, .own 63 9 (.slice none 0 0) (([] : List Tk)).length ((([] : List Tk)).flatMap Tk.cells), X11] := (hS37.front 1 rfl rfl).front 3 rfl rfl
    replace hS37 : St w M w36 M33 [X11, .own 63 9 v31 (acc ++ [(⟨((tokP r).1).kind, ((tokP r).1).s, ((tokP r).1).c, (len s) - (len r)⟩ : Tk)]).length ((acc ++ [(⟨((tokP r).1).kind, ((tokP r).1).s, ((tokP r).1).c, (len s) - (len r)⟩ : Tk)]).flatMap Tk.cells), .box b3 cs10 104, .own 63 9 (.slice none 0 0) (([] : List Tk)).length ((([] : List Tk)).flatMap Tk.cells)] := hS37.front 3 rfl rfl
    refine RL.nil fun a hs => Exists.intro ((f - 1, blankTo s (i + (tokP r).2.1), dropB (Eng.from' r ((tokP r).2.1)), acc ++ [(⟨((tokP r).1).kind, ((tokP r).1).s, ((tokP r).1).c, (len s) - (len r)⟩ : Tk)], v31, cs10, X11, M33)) ⟨hs.keep [0, 5, 6, 7], ?_, ?_⟩
    ·refine ⟨hS37, ?_⟩
     exact ⟨by omega, by omega, hdr _ (by omega), by rw [← hF, lexGo_eq hf hlt, ← hr, if_neg (by simpa using hb2), hat], by omega, by rw [len_app, len_cons, len_nil]; omega, MarkOk.mono hm12 ((hle30.trans hle35))⟩
    ·show Int.toNat _ < Int.toNat _; omega
  ·have hge : ¬ i < len s := by rw [hb1, len_nil] at hlr; omega
   refine CW.exit (CW.at [Y 0 (str s), Y 6 va] rfl ?_)
   refine CW.sr (RL.m rfl rfl (RL.m rfl rfl (RL.u (.lenS (.t rfl) Tryz.underlying9) rfl (RL.u (.build (vs := [(0, (i64 6)), (3, (i64 (len s)))]) (v := (.agg #[(i64 6), (str []), (i64 0), (i64 0), (str []), (str []), (.bool false), (i64 0), (i64 (len s))])) (.cons .c (.cons (.t rfl) .nil)) (fun w => by kernel_rfl)) rfl ?_))))
   refine RL.buildSlice (n := 1) (sz := 9) (e := 63) (vs := [(0, (.agg #[(i64 6), (str []), (i64 0), (i64 0), (str []), (str []), (.bool false), (i64 0), (i64 (len s))]))]) (cs := [(i64 6), (str []), (i64 0), (i64 0), (str []), (str []), (.bool false), (i64 0), (i64 (len s))]) hS9 (.cons (.t rfl) .nil) rfl rfl (fun w => by kernel_rfl) rfl (fun v38 w39 M40 hS41 hle42 => ?_)
   replace hS41 : St w M w39 M40 [.own 63 9 v38 (([(⟨6, [], ⟨0, 0, [], [], false, 0⟩, len s⟩ : Tk)] : List Tk)).length ((([(⟨6, [], ⟨0, 0, [], [], false, 0⟩, len s⟩ : Tk)] : List Tk)).flatMap Tk.cells), X, .own 63 9 va acc.length (acc.flatMap Tk.cells), .box b3 cs 104, .own 63 9 (.slice none 0 0) (([] : List Tk)).length ((([] : List Tk)).flatMap Tk.cells)] := hS41
   refine RL.append1 (f := Tk.cells) (l := acc) (y := (⟨6, [], ⟨0, 0, [], [], false, 0⟩, len s⟩ : Tk)) hS41 (k := 2) rfl (.t rfl) (.t rfl) (hS41.sl (i := 0) rfl) Tryz.underlying52 Tryz.type63 rfl rfl rfl Tk.cells_one (by' := 96) rfl rfl (by omega) rfl (Hs' := fun v' => [.own 63 9 v38 (([(⟨6, [], ⟨0, 0, [], [], false, 0⟩, len s⟩ : Tk)] : List Tk)).length ((([(⟨6, [], ⟨0, 0, [], [], false, 0⟩, len s⟩ : Tk)] : List Tk)).flatMap Tk.cells), X, .own 63 9 v' (acc ++ [(⟨6, [], ⟨0, 0, [], [], false, 0⟩, len s⟩ : Tk)]).length ((acc ++ [(⟨6, [], ⟨0, 0, [], [], false, 0⟩, len s⟩ : Tk)]).flatMap Tk.cells), .box b3 cs 104, .own 63 9 (.slice none 0 0) (([] : List Tk)).length ((([] : List Tk)).flatMap Tk.cells)]) (fun _ => rfl) (fun v43 w44 M45 hS46 hle47 => ?_)
   replace hS46 := hS46.erase 0 rfl
   refine RL.a rfl rfl (RL.u (.assign .c) rfl (RL.u (.assign .c) rfl (RL.nil (CW.id ?_))))
   refine CW.ret (hE.r3 rfl rfl rfl rfl ?_)
   have hq : lexP s = (acc ++ [endTk s], 0, 0) := by rw [← hF, lexGo_end hge]
   exact ⟨_, _, rfl, ⟨_, by rw [hq], by rw [hq]; exact hS46.sl (i := 1) rfl⟩, hS46.done⟩

end Go.Proofs.YtmjpjbmeamnfpaaGreatDoor
set_option maxRecDepth 100000
namespace Go.Proofs.YtmjpjbmeamnfpaaGreatDoor
open Go.Eng

theorem pletter_c (c : Int) (w : World) : Calls Tryz.prog 299 [.int .u8 c].toArray w fun e w' => e = .returned (.bool (isLetter c)) ∧ Ext w w' := by
 refine xenter ttok Tryz.func299 rfl Tryz.ntmps299 [] [] [.v (.int .u8 c)] rfl (st0 w) fnil (fun B hB => ?_) rfl
 exact xret hB rfl rfl (eok rfl) (by omega) rfl (eok rfl) fun w M hX => ⟨rfl, hX.st.low⟩
theorem pfigure_c (c : Int) (w : World) : Calls Tryz.prog 300 [.int .u8 c].toArray w fun e w' => e = .returned (.bool (isFig c)) ∧ Ext w w' := by
 refine xenter ttok Tryz.func300 rfl Tryz.ntmps300 [] [] [.v (.int .u8 c)] rfl (st0 w) fnil (fun B hB => ?_) rfl
 exact xret hB rfl rfl (eok rfl) (by omega) rfl (eok rfl) fun w M hX => ⟨rfl, hX.st.low⟩
theorem pword_c (s : Str) (w : World) (hb : len s ≤ 1099511627776) : Calls Tryz.prog 280 [str s].toArray w fun e w' => e = .returned (i64 (wordTo s 0)) ∧ Ext w w' := by
 have hln := len_nonneg s
 refine xenter ttok Tryz.func280 rfl Tryz.ntmps280 [] [] [.v (str s)] rfl (st0 w) fnil (fun B hB => ?_) rfl
 refine xloop (σ := Int) (fun n => ⟨[], [], [Z 0 (.v (str s)), Z 3 (I n)]⟩) (fun n => 0 ≤ n ∧ n ≤ len s ∧ wordTo s n = wordTo s 0) (fun n => (len s - n).toNat) 0 rfl (eok rfl) (by omega) rfl ⟨by omega, hln, rfl⟩ ?_
 rintro n ⟨h0, h1, hw⟩
 refine xcall rfl (eok rfl) (by simp only [zb] <;> omega) Tryz.call299 rfl rfl (eok rfl) (fun _ w M hX => pletter_c (byteAt s n) w) rfl ?_
 refine xcall rfl (eok rfl) (by simp only [zb] <;> omega) Tryz.call300 rfl rfl (eok rfl) (fun _ w M hX => pfigure_c (byteAt s n) w) rfl ?_
 refine xbr rfl (eok rfl) (by simp only [zb] <;> omega) (fun hb1 => ?_) (fun hb1 => ?_) <;> simp only [zb] at hb1
 ·have hwr : isWordR (byteAt s n) (n == 0) = true := by unfold isWordR; simp only [zb]; exact hb1.2.imp id fun q => ⟨by omega, q.2⟩
  exact xround (n + 1) rfl (eok rfl) (by omega) rfl ⟨by omega, by omega, by rw [wordTo_step h0 hb1.1 hwr, hw]⟩ (by show Int.toNat _ < Int.toNat _; omega)
 ·have e : wordTo s n = n := by
   by_cases hlt : n < len s
   · refine wordTo_stop h0 hlt ?_
     have h2 := hb1.resolve_left (by omega)
     unfold isWordR
     simp only [zb]
     refine ⟨h2.1, ?_⟩
     rcases h2.2 with h3 | h3
     · exact .inl (by omega)
     · exact .inr h3
   · exact wordTo_end hlt
  exact xret hB rfl rfl (eok rfl) (by omega) rfl (eok rfl) fun w M hX => ⟨by rw [← hw, e]; rfl, hX.st.low⟩
theorem isWordS_eq (s : Str) : isWordS s = (s != [] && wordTo s 0 == len s) := by
  unfold isWordS
  congr 1
  have h := wordTo_bd (s := s) (i := 0) (by omega) (len_nonneg s)
  rw [Bool.eq_iff_iff, beq_iff_eq, beq_iff_eq]
  constructor
  · intro e; rw [← wordP_len, e]
  · intro e
    unfold wordP
    rw [e]
    unfold Eng.sub len; simp
theorem pisWord_c (s : Str) (w : World) (hb : len s ≤ 1099511627776) : Calls Tryz.prog 254 [str s].toArray w fun e w' => e = .returned (.bool (isWordS s)) ∧ Ext w w' := by
 refine xenter ttok Tryz.func254 rfl Tryz.ntmps254 [] [] [.v (str s)] rfl (st0 w) fnil (fun B hB => ?_) rfl
 refine xcall rfl (eok rfl) (by omega) Tryz.call280 rfl rfl (eok rfl) (fun _ w M hX => pword_c s w hb) rfl ?_
 exact xret hB rfl rfl (eok rfl) (by simp only [zb] <;> omega) rfl (eok rfl) fun w M hX => ⟨by rw [isWordS_eq]; rfl, hX.st.low⟩
/-- A builder's things. -/
abbrev bldH (b : Nat) (a u : Value) (o : Str) : List HO := [.box b [a, u] 163, .own 5 1 u (ints o).length ((ints o).flatMap u8I)]
abbrev bldX (b : Nat) (a u : Value) (o : Str) : List (Nat × HX) := [(1, .box b [.v a, .v u] 163), (2, .ho (.own 5 1 u (ints o).length ((ints o).flatMap u8I)))]
theorem wstr_c {w0 wv : World} {M0 M : Mem} {Rs : List HO} (b : Nat) (a u : Value) (o s : Str) (hS : St w0 M0 wv M (bldH b a u o ++ Rs)) (ha : a = .pointer none ∨ a = selfP b) (ho : len o ≤ 35184372088832) (hs : len s ≤ 35184372088832) :
    Calls Tryz.prog 218 [.pointer (some ⟨b, 0, none⟩), str s].toArray wv (ORet w0 M0 M Rs (fun _ : Value => .tuple #[i64 (len s), .nilIface]) (fun _ => True) (fun _ => []) fun u' => bldH b (selfP b) u' (o ++ s)) :=
 (writeString_c b a (ints o) s u hS ha (by rw [ints_len]; exact ho) hs).mono fun e w' ⟨x, he, v', M', hx, hS', hle⟩ => by
  subst hx
  rw [← ints_app] at hS'
  exact ⟨v', M', he, trivial, hle, hS', fnil⟩
theorem Sp.cells_len (x : Sp) : x.cells.length = 3 := rfl
theorem stepP_len {x : Sp} (h1 : len x.name ≤ 1048576) (h2 : x.part = true → 0 ≤ x.n ∧ x.n ≤ 1000000) : 0 ≤ len (stepP quoteP x) ∧ len (stepP quoteP x) ≤ 6291463 := by
 refine ⟨len_nonneg _, ?_⟩
 unfold stepP
 have hn := len_nonneg x.name
 split
 ·rename_i hp
  have h3 := h2 hp
  have h4 := itoa_len x.n
  rw [len_app, len_app, len_cons, len_nil, len_cons, len_nil]; omega
 ·split
  ·rw [len_app, len_cons, len_nil]; omega
  ·have h3 := quoteP_len x.name
   rw [len_app, len_cons, len_nil]; omega
abbrev tailS (p : List Sp) : Str := (p.map (stepP quoteP)).flatten
theorem tailS_snoc (p : List Sp) {k : Int} (h0 : 0 ≤ k) (h1 : k < len p) : tailS (Eng.sub p 0 (k + 1)) = tailS (Eng.sub p 0 k) ++ stepP quoteP (at' p k) := by
 unfold tailS; rw [subA_snoc h0 h1]; simp
theorem tailS_len {p : List Sp} (h : StepsOk p) : ∀ k : Nat, (k : Int) ≤ len p → len (tailS (Eng.sub p 0 (k : Int))) ≤ k * 6291463
 | 0, _ => by show len (tailS (Eng.sub p 0 0)) ≤ _; unfold tailS Eng.sub; simp [len]
 | k + 1, hk => by
  have ih := tailS_len h k (by omega)
  rw [show ((k + 1 : Nat) : Int) = (k : Int) + 1 by omega, tailS_snoc p (by omega) (by omega), len_app]
  obtain ⟨q1, q2⟩ := h.2 _ (at_mem (k := (k : Int)) (by omega) (by omega))
  have := stepP_len q1 q2
  omega
theorem ptail_c {w : World} {M : Mem} (v : Value) (p : List Sp) (hM : Sat w M) (hg : Gl w) (hl : Sl M 3 p.length v (p.flatMap Sp.cells)) (hp : StepsOk p) :
    Calls Tryz.prog 224 [v].toArray w fun e w' => e = .returned (str (tailS p)) ∧ Ext w w' := by
 have hln := len_nonneg p
 have h20 := hp.1
 refine xenter (Hr := []) ttok Tryz.func224 rfl Tryz.ntmps224 [(0, kn v 3 p Sp.cells)] [] [.sl 0 v] rfl (St.start hM) (fc 0 hl Sp.cells_len fnil) (fun B hB => ?_) rfl
 refine xalloc 1 rfl (eok rfl) (by omega) Tryz.zeroValue163 rfl fun bb => ?_
 refine xnil0 2 5 1 u8I u8I_len ?_
 refine xloop (σ := Int × Value × Value) (fun (k, a, u) => ⟨[(0, kn v 3 p Sp.cells)], bldX bb a u (tailS (Eng.sub p 0 k)), [Z 3 (.bx 1 bb 0), Z 6 (.sl 0 v), Z 7 (I (len p)), Z 8 (I k)]⟩) (fun (k, a, u) => 0 ≤ k ∧ k ≤ len p ∧ (a = .pointer none ∨ a = selfP bb)) (fun (k, a, u) => (len p - k).toNat) (0, .pointer none, .slice none 0 0) rfl (eok rfl) (by omega) rfl ⟨by omega, hln, .inl rfl⟩ ?_
 rintro ⟨k, a, u⟩ ⟨h0, h1, ha⟩
 have htl := tailS_len hp k.toNat (by omega)
 rw [show ((k.toNat : Nat) : Int) = k by omega] at htl
 refine xbr rfl (eok rfl) (by omega) (fun hb1 => ?_) (fun hb1 => ?_) <;> simp only [zb] at hb1
 ·obtain ⟨q1, q2⟩ := hp.2 _ (at_mem h0 hb1)
  have hsl := stepP_len q1 q2
  have hnx := tailS_snoc p h0 hb1
  have hnn := len_nonneg (at' p k).name
  refine xalloc 5 rfl (eok rfl) (by omega) Tryz.zeroValue68 rfl fun b5 => ?_
  refine xbr rfl (eok rfl) (by omega) (fun hb2 => ?_) (fun hb2 => ?_)
  ·have e : stepP quoteP (at' p k) = ([91] ++ Lib.itoa (at' p k).n) ++ [93] := by unfold stepP; rw [if_pos hb2]
   have hit := itoa_len (at' p k).n
   have hq := q2 hb2
   refine xcall rfl (eok rfl) (by omega) Tryz.call245 rfl rfl (eok rfl) (fun _ w M hX => itoa_c _ w (hg.low hX.st.low) (by omega) (by omega)) rfl ?_
   refine xcallO [1, 2] (fun _ => .tu [I (len (stepP quoteP (at' p k))), .v .nilIface]) [] (fun u' => bldX bb (selfP bb) u' (tailS (Eng.sub p 0 k) ++ stepP quoteP (at' p k))) rfl (eok rfl) (by simp only [zb, len_app, len_cons, len_nil] <;> omega) rfl Tryz.call218 rfl rfl (eok rfl) rfl (fun w M hS hF => by rw [e]; exact wstr_c bb a u _ _ hS ha (by omega) (by rw [← e]; omega)) (fun _ => rfl) (fun _ => rfl) fun u' _ => ?_
   exact xround (k + 1, selfP bb, u') rfl (eok rfl) (by omega) (by dsimp only; rw [hnx]; rfl) ⟨by omega, by omega, .inr rfl⟩ (by show Int.toNat _ < Int.toNat _; omega)
  ·refine xcall rfl (eok rfl) (by omega) Tryz.call254 rfl rfl (eok rfl) (fun _ w M hX => pisWord_c (at' p k).name w (by omega)) rfl ?_
   refine xbr rfl (eok rfl) (by omega) (fun hb3 => ?_) (fun hb3 => ?_)
   ·have e : stepP quoteP (at' p k) = [46] ++ (at' p k).name := by unfold stepP; rw [if_neg (by rw [hb2]; decide), if_pos hb3]
    refine xcallO [1, 2] (fun _ => .tu [I (len (stepP quoteP (at' p k))), .v .nilIface]) [] (fun u' => bldX bb (selfP bb) u' (tailS (Eng.sub p 0 k) ++ stepP quoteP (at' p k))) rfl (eok rfl) (by simp only [zb, len_app, len_cons, len_nil] <;> omega) rfl Tryz.call218 rfl rfl (eok rfl) rfl (fun w M hS hF => by rw [e]; exact wstr_c bb a u _ _ hS ha (by omega) (by rw [← e]; omega)) (fun _ => rfl) (fun _ => rfl) fun u' _ => ?_
    exact xround (k + 1, selfP bb, u') rfl (eok rfl) (by omega) (by dsimp only; rw [hnx]; rfl) ⟨by omega, by omega, .inr rfl⟩ (by show Int.toNat _ < Int.toNat _; omega)
   ·have e : stepP quoteP (at' p k) = [46] ++ quoteP (at' p k).name := by unfold stepP; rw [if_neg (by rw [hb2]; decide), if_neg (by rw [hb3]; decide)]
    have hql := quoteP_len (at' p k).name
    refine xcall rfl (eok rfl) (by omega) Tryz.call255 rfl rfl (eok rfl) (fun _ w M hX => quote_c (at' p k).name w (hg.low hX.st.low) (by omega)) rfl ?_
    refine xcallO [1, 2] (fun _ => .tu [I (len (stepP quoteP (at' p k))), .v .nilIface]) [] (fun u' => bldX bb (selfP bb) u' (tailS (Eng.sub p 0 k) ++ stepP quoteP (at' p k))) rfl (eok rfl) (by simp only [zb, len_app, len_cons, len_nil] <;> omega) rfl Tryz.call218 rfl rfl (eok rfl) rfl (fun w M hS hF => by rw [e]; exact wstr_c bb a u _ _ hS ha (by omega) (by rw [← e]; omega)) (fun _ => rfl) (fun _ => rfl) fun u' _ => ?_
    exact xround (k + 1, selfP bb, u') rfl (eok rfl) (by omega) (by dsimp only; rw [hnx]; rfl) ⟨by omega, by omega, .inr rfl⟩ (by show Int.toNat _ < Int.toNat _; omega)
 ·have hke : k = len p := by omega
  subst hke
  rw [subA_all (Int.le_refl _)] at *
  refine xcallZ hM rfl rfl rfl (eok rfl) (by omega) Tryz.call110 rfl rfl (eok rfl) (fun w M hX => (string_c bb a u (tailS p) (ints (tailS p)) hX.st ha rfl).mono fun e w' ⟨x, h1, h2, h3⟩ => ⟨by rw [h1, h2], h3⟩) rfl ?_
  exact xret hB rfl rfl (eok rfl) (by omega) rfl (eok rfl) fun w M' hX => ⟨rfl, hX.st.low⟩
theorem pathP_eq (p : List Sp) : pathP quoteP p = if p = [] ∨ (at' p 0).part = true then [46] ++ tailS p else tailS p := by
 unfold pathP; split <;> simp
theorem ptext_c {w : World} {M : Mem} (v : Value) (p : List Sp) (hM : Sat w M) (hg : Gl w) (hl : Sl M 3 p.length v (p.flatMap Sp.cells)) (hp : StepsOk p) :
    Calls Tryz.prog 175 [v].toArray w fun e w' => e = .returned (str (pathP quoteP p)) ∧ Ext w w' := by
 have hln := len_nonneg p
 have h20 := hp.1
 have htl := tailS_len hp p.length (by show len p ≤ _; omega)
 rw [show ((p.length : Nat) : Int) = len p from rfl, subA_all (Int.le_refl _)] at htl
 refine xenter (Hr := []) ttok Tryz.func175 rfl Tryz.ntmps175 [(0, kn v 3 p Sp.cells)] [] [.sl 0 v] rfl (St.start hM) (fc 0 hl Sp.cells_len fnil) (fun B hB => ?_) rfl
 refine xbr rfl (eok rfl) (by simp only [zb] <;> omega) (fun hb1 => ?_) (fun hb1 => ?_) <;> simp only [zb] at hb1
 ·have e : pathP quoteP p = [46] ++ tailS p := by
   rw [pathP_eq, if_pos (hb1.imp (fun q => by cases p with | nil => rfl | cons x r => rw [len_cons] at q; have := len_nonneg r; omega) id)]
  rw [e] at hB
  refine xcall rfl (eok rfl) (by omega) Tryz.call224 rfl rfl (eok rfl) (fun _ w M hX => ptail_c v p hX.st.sat (hg.low hX.st.low) (hX.sl 0 rfl) hp) rfl ?_
  exact xret hB rfl rfl (eok rfl) ⟨(by show (1 : Int) + len (tailS p) ≤ 9223372036854775807; omega), rfl⟩ rfl (eok rfl) fun w M' hX => ⟨rfl, hX.st.low⟩
 ·have e : pathP quoteP p = tailS p := by
   rw [pathP_eq, if_neg (fun q => ?_)]
   rcases q with q | q
   · rw [q] at hb1; exact hb1.1 rfl
   · rw [q] at hb1; cases hb1.2
  rw [e] at hB
  refine xcall rfl (eok rfl) (by omega) Tryz.call224 rfl rfl (eok rfl) (fun _ w M hX => ptail_c v p hX.st.sat (hg.low hX.st.low) (hX.sl 0 rfl) hp) rfl ?_
  exact xret hB rfl rfl (eok rfl) (by omega) rfl (eok rfl) fun w M' hX => ⟨rfl, hX.st.low⟩
end Go.Proofs.YtmjpjbmeamnfpaaGreatDoor
