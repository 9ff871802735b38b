import Derived.Test.YthdialbnlnjgpaaGreatDoorEngL
import Derived.Laws.BitsLemmas
import Derived.Test.YthdialbnlnjgpaaGreatDoorPure
import Derived.Test.YthdialbnlnjgpaaGreatDoorProg
import Derived.Test.YthdialbnlnjgpaaGreatDoorL3
import Derived.Test.YthdialbnlnjgpaaGreatDoorP6
set_option linter.unusedVariables false
set_option linter.unusedSimpArgs false
namespace Go.Proofs.YthdialbnlnjgpaaGreatDoor
open Go.Eng

theorem trimN_c (s : Str) (w : World) : Calls Tryz.prog 15 [str s, str [48, 49, 50, 51, 52, 53, 54, 55, 56, 57, 43, 45, 46, 101, 69]].toArray w fun e w' => e = .returned (str (dropN s)) ∧ Ext w w' := trimLeft_c s _ w (by decide) (cut_low (by decide))
theorem trimB_c (s : Str) (w : World) : Calls Tryz.prog 15 [str s, str [32, 9, 10, 13]].toArray w fun e w' => e = .returned (str (dropB s)) ∧ Ext w w' := trimLeft_c s _ w (by decide) (cut_low (by decide))
/- (*loupe/lex.marks).token -/
set_option maxRecDepth 100000 in
theorem token_c {w wv : World} {M0 M : Mem} {Rs : List HO} (b : Nat) (cs : List Value) (X : HO) (s : Str) (hS : St w M0 wv M (.box b cs 51 :: X :: Rs)) (hm : MarkOk M cs X) (hg : Gl w) (h0 : 0 < len s) (hb : len s ≤ 1099511627776) :
  Calls Tryz.prog 16 [(.pointer (some ⟨b, 0, none⟩)), (str s)].toArray wv fun e w' => ∃ v, e = .returned v ∧ ∃ cs' X' M', v = .tuple #[.agg (Tk.cells (tokP s).1).toArray, i64 (tokP s).2.1, i64 (tokP s).2.2] ∧ MarkOk M' cs' X' ∧ St w M0 w' M' (.box b cs' 51 :: X' :: Rs) ∧ M.le M' := by
 refine CW.enter Tryz.func16 rfl Tryz.ntmps16 (Nat.le_of_ble_eq_true rfl) ?_
 have hf1 := from_bd s 1
 have hfl := from_len s 1 (by omega) (by omega)
 have hw1 := wordP_bd (from' s 1)
 have hu1 := unqP_bd (from' s 1)
 have hsb := sub_bd s 0 (len s - len (dropN s))
 have hdn := dropN_len s
 have hrn : Eng.sub s 0 (len s - len (dropN s)) = Eng.runN s := rfl
 have hisf : isFig (byteAt s 0) = true ↔ (48 ≤ byteAt s 0 ∧ byteAt s 0 ≤ 57) := by unfold isFig; simp
 refine CW.weaken [0, 1] (L' := [Y 0 (.pointer (some ⟨b, 0, none⟩)), Y 1 (str s)]) ?_ rfl
 refine CW.sr ?_
 refine RL.alloc hS Tryz.zeroValue33 rfl (fun w1 b2 hS3 => ?_)
 replace hS3 : St w M0 w1 M (.box b2 [(i64 0), (str []), (i64 0), (i64 0), (str []), (str []), (.bool false), (i64 0), (i64 0)] 33 :: .box b cs 51 :: X :: Rs) := hS3
 refine RL.u (.assign .c) rfl (RL.u (.assign .c) rfl ?_)
 refine RL.nil (CW.at [Y 0 (.pointer (some ⟨b, 0, none⟩)), Y 1 (str s), Y 4 (.pointer (some ⟨b2, 0, none⟩))] rfl ?_)
 refine CW.seq ?_
 refine CW.sr ?_
 refine RL.m rfl rfl (RL.u (.idxS (.t rfl) .c Tryz.underlying9 (fun _ => by omega)) rfl (RL.u (.eql (.t rfl) .c) rfl ?_))
 refine RL.nil (CW.at [Y 0 (.pointer (some ⟨b, 0, none⟩)), Y 1 (str s), Y 4 (.pointer (some ⟨b2, 0, none⟩)), Y 23 (.bool ((byteAt (s) (0)) == (46)))] rfl ?_)
 refine CW.cond rfl (fun hb1 => ?_) (fun hb1 => ?_)
 ·try simp only [zb] at hb1
  refine CW.seq ?_
  refine CW.sr ?_
  refine RL.m rfl rfl (RL.u (.slSl (.t rfl) .c Tryz.underlying9 (fun _ => by omega)) rfl ?_)
  refine RL.callE hS3 .none Tryz.call20 (.cons (.t rfl) .nil) (fun _ => (word_c (Eng.from' (s) (1)) _ (by omega))) rfl (fun w4 hS5 => ?_)
  refine RL.a rfl rfl ?_
  refine RL.nil (CW.at [Y 0 (.pointer (some ⟨b, 0, none⟩)), Y 1 (str s), Y 4 (.pointer (some ⟨b2, 0, none⟩)), Y 7 (str (wordP (Eng.from' (s) (1))))] rfl ?_)
  refine CW.sr ?_
  refine RL.m rfl rfl (RL.u (.sneq (.t rfl) .c) rfl ?_)
  refine RL.nil (CW.at [Y 0 (.pointer (some ⟨b, 0, none⟩)), Y 1 (str s), Y 4 (.pointer (some ⟨b2, 0, none⟩)), Y 7 (str (wordP (Eng.from' (s) (1)))), Y 28 (.bool (!((wordP (Eng.from' (s) (1))) == ([]))))] rfl ?_)
  refine CW.cond rfl (fun hb2 => ?_) (fun hb2 => ?_)
  ·try simp only [zb] at hb2
   refine CW.sr ?_
   refine RL.m rfl rfl (RL.u (.build (vs := [(0, (i64 3)), (1, (str (wordP (Eng.from' (s) (1)))))]) (v := (.agg #[(i64 3), (str (wordP (Eng.from' (s) (1)))), (i64 0), (i64 0), (str []), (str []), (.bool false), (i64 0), (i64 0)])) (.cons .c (.cons (.t rfl) .nil)) (fun w => by kernel_rfl)) rfl (RL.m rfl rfl (RL.u (.lenS (.t rfl) Tryz.underlying9) rfl (RL.u (.add .c (.t rfl) (fun _ => by omega)) rfl ?_))))
   refine RL.st hS5 (i := 0) rfl (.t rfl) (.t rfl) Tryz.sizeOf33 rfl rfl rfl (Hs' := (.box b2 [(i64 3), (str (wordP (Eng.from' (s) (1)))), (i64 0), (i64 0), (str []), (str []), (.bool false), (i64 0), (i64 0)] 33 :: .box b cs 51 :: X :: Rs)) rfl rfl (fun w6 hS7 => ?_)
   refine RL.a rfl rfl (RL.u (.assign .c) rfl ?_)
   refine RL.nil (CW.at [Y 4 (.pointer (some ⟨b2, 0, none⟩)), Y 5 (i64 ((1) + (len (wordP (Eng.from' (s) (1)))))), Y 6 (i64 0)] rfl ?_)
   refine CW.ret (retR3 (P := Tryz.prog) (fn := Tryz.f16) (R := fun e w' => ∃ v, e = .returned v ∧ ∃ cs' X' M', v = .tuple #[.agg (Tk.cells (tokP s).1).toArray, i64 (tokP s).2.1, i64 (tokP s).2.2] ∧ MarkOk M' cs' X' ∧ St w M0 w' M' (.box b cs' 51 :: X' :: Rs) ∧ M.le M') rfl (.boxN hS7 (i := 0) rfl rfl Tryz.isAgg33 Tryz.sizeOf33) (show RV _ _ _ (.tmp _) _ from rfl) (show RV _ _ _ (.tmp _) _ from rfl) ?_)
   replace hS7 : St w M0 w6 M (.box b cs 51 :: X :: Rs) := hS7.erase 0 rfl
   have hq : tokP s = ((⟨3, wordP (Eng.from' (s) (1)), ⟨0, 0, [], [], false, 0⟩, 0⟩ : Tk), (1) + (len (wordP (Eng.from' (s) (1)))), 0) := by
    unfold tokP
    rw [if_pos (by first | assumption | omega | (simp_all; done) | grind)]
    try rfl
   exact ⟨_, rfl, _, _, _, by rw [hq]; rfl, hm, hS7, (Mem.le.refl _)⟩
  ·try simp only [zb] at hb2
   refine CW.skip (CW.at [Y 0 (.pointer (some ⟨b, 0, none⟩)), Y 1 (str s), Y 4 (.pointer (some ⟨b2, 0, none⟩))] rfl ?_)
   refine CW.sr ?_
   refine RL.m rfl rfl (RL.u (.slSl (.t rfl) .c Tryz.underlying9 (fun _ => by omega)) rfl ?_)
   refine RL.callS .none Tryz.call29 (.cons (.t rfl) (.cons .c .nil)) (fun _ => (hasPrefix_c (Eng.from' (s) (1)) ([34]) _)) rfl ?_
   refine RL.nil (CW.at [Y 0 (.pointer (some ⟨b, 0, none⟩)), Y 1 (str s), Y 4 (.pointer (some ⟨b2, 0, none⟩)), Y 36 (.bool (Lib.hasPrefix (Eng.from' (s) (1)) ([34])))] rfl ?_)
   refine CW.cond rfl (fun hb3 => ?_) (fun hb3 => ?_)
   ·try simp only [zb] at hb3
    refine CW.sr ?_
    refine RL.m rfl rfl (RL.u (.slSl (.t rfl) .c Tryz.underlying9 (fun _ => by omega)) rfl ?_)
    refine RL.callE hS5 .none Tryz.call30 (.cons (.t rfl) .nil) (fun _ => (unquote_c (Eng.from' (s) (1)) _ (hg.low hS5.low) (by first | omega | exact Int.le_trans (from_bd _ _).2 (by omega)))) rfl (fun w8 hS9 => ?_)
    refine RL.m rfl rfl (RL.u (.ex (.t rfl) rfl) rfl (RL.u (.ex (.t rfl) rfl) rfl (RL.u (.ex (.t rfl) rfl) rfl (RL.a rfl rfl (RL.a rfl rfl ?_)))))
    refine RL.a rfl rfl ?_
    refine RL.nil (CW.at [Y 4 (.pointer (some ⟨b2, 0, none⟩)), Y 8 (str ((unqP (Eng.from' (s) (1))).1)), Y 9 (i64 ((unqP (Eng.from' (s) (1))).2.1)), Y 10 (i64 ((unqP (Eng.from' (s) (1))).2.2))] rfl ?_)
    refine CW.sr ?_
    refine RL.m rfl rfl (RL.u (.build (vs := [(0, (i64 3)), (1, (str ((unqP (Eng.from' (s) (1))).1)))]) (v := (.agg #[(i64 3), (str ((unqP (Eng.from' (s) (1))).1)), (i64 0), (i64 0), (str []), (str []), (.bool false), (i64 0), (i64 0)])) (.cons .c (.cons (.t rfl) .nil)) (fun w => by kernel_rfl)) rfl (RL.m rfl rfl (RL.u (.add .c (.t rfl) (fun _ => by omega)) rfl (RL.m rfl rfl ?_))))
    refine RL.st hS9 (i := 0) rfl (.t rfl) (.t rfl) Tryz.sizeOf33 rfl rfl rfl (Hs' := (.box b2 [(i64 3), (str ((unqP (Eng.from' (s) (1))).1)), (i64 0), (i64 0), (str []), (str []), (.bool false), (i64 0), (i64 0)] 33 :: .box b cs 51 :: X :: Rs)) rfl rfl (fun w10 hS11 => ?_)
    refine RL.a rfl rfl (RL.a rfl rfl ?_)
    refine RL.nil (CW.at [Y 4 (.pointer (some ⟨b2, 0, none⟩)), Y 5 (i64 ((1) + ((unqP (Eng.from' (s) (1))).2.1))), Y 6 (i64 ((unqP (Eng.from' (s) (1))).2.2))] rfl ?_)
    refine CW.ret (retR3 (P := Tryz.prog) (fn := Tryz.f16) (R := fun e w' => ∃ v, e = .returned v ∧ ∃ cs' X' M', v = .tuple #[.agg (Tk.cells (tokP s).1).toArray, i64 (tokP s).2.1, i64 (tokP s).2.2] ∧ MarkOk M' cs' X' ∧ St w M0 w' M' (.box b cs' 51 :: X' :: Rs) ∧ M.le M') rfl (.boxN hS11 (i := 0) rfl rfl Tryz.isAgg33 Tryz.sizeOf33) (show RV _ _ _ (.tmp _) _ from rfl) (show RV _ _ _ (.tmp _) _ from rfl) ?_)
    replace hS11 : St w M0 w10 M (.box b cs 51 :: X :: Rs) := hS11.erase 0 rfl
    have hq : tokP s = ((⟨3, (unqP (Eng.from' (s) (1))).1, ⟨0, 0, [], [], false, 0⟩, 0⟩ : Tk), (1) + ((unqP (Eng.from' (s) (1))).2.1), (unqP (Eng.from' (s) (1))).2.2) := by
     unfold tokP
     rw [if_neg (by first | assumption | omega | (simp_all; done) | grind), if_pos (by first | assumption | omega | (simp_all; done) | grind)]
     try rfl
    exact ⟨_, rfl, _, _, _, by rw [hq]; rfl, hm, hS11, (Mem.le.refl _)⟩
   ·try simp only [zb] at hb3
    refine CW.skip (CW.at [Y 0 (.pointer (some ⟨b, 0, none⟩)), Y 1 (str s), Y 4 (.pointer (some ⟨b2, 0, none⟩))] rfl ?_)
    refine CW.seq ?_
    refine CW.sr ?_
    refine RL.m rfl rfl (RL.m rfl rfl ?_)
    replace hS5 : St w M0 w4 M (X :: .box b2 [(i64 0), (str []), (i64 0), (i64 0), (str []), (str []), (.bool false), (i64 0), (i64 0)] 33 :: .box b cs 51 :: Rs) := hS5.front 2 rfl rfl
    replace hS5 : St w M0 w4 M (.box b cs 51 :: X :: .box b2 [(i64 0), (str []), (i64 0), (i64 0), (str []), (str []), (.bool false), (i64 0), (i64 0)] 33 :: Rs) := hS5.front 2 rfl rfl
    refine RL.callP Tryz.call31 (.cons (.t rfl) (.cons (.t rfl) .nil)) (at_c (Rs := (.box b2 [(i64 0), (str []), (i64 0), (i64 0), (str []), (str []), (.bool false), (i64 0), (i64 0)] 33 :: Rs)) b cs X (s) hS5 (by assumption) hg (by omega) (by omega)) rfl ?_
    rintro v15 w16 ⟨cs12, X13, M17, rfl, hm14, hS18, hle19⟩
    replace hS18 : St w M0 w16 M17 (.box b cs12 51 :: X13 :: .box b2 [(i64 0), (str []), (i64 0), (i64 0), (str []), (str []), (.bool false), (i64 0), (i64 0)] 33 :: Rs) := hS18
    refine RL.a rfl rfl ?_
    refine RL.nil (CW.at [Y 1 (str s), Y 4 (.pointer (some ⟨b2, 0, none⟩)), Y 11 (str (markP (s)))] rfl ?_)
    refine CW.sr ?_
    refine RL.m rfl rfl (RL.u (.sneq (.t rfl) .c) rfl ?_)
    refine RL.nil (CW.at [Y 1 (str s), Y 4 (.pointer (some ⟨b2, 0, none⟩)), Y 11 (str (markP (s))), Y 53 (.bool (!((markP (s)) == ([]))))] rfl ?_)
    refine CW.cond rfl (fun hb4 => ?_) (fun hb4 => ?_)
    ·try simp only [zb] at hb4
     refine CW.sr ?_
     refine RL.m rfl rfl (RL.u (.build (vs := [(0, (i64 1)), (1, (str (markP (s))))]) (v := (.agg #[(i64 1), (str (markP (s))), (i64 0), (i64 0), (str []), (str []), (.bool false), (i64 0), (i64 0)])) (.cons .c (.cons (.t rfl) .nil)) (fun w => by kernel_rfl)) rfl (RL.m rfl rfl (RL.u (.lenS (.t rfl) Tryz.underlying9) rfl ?_)))
     refine RL.st hS18 (i := 2) rfl (.t rfl) (.t rfl) Tryz.sizeOf33 rfl rfl rfl (Hs' := (.box b cs12 51 :: X13 :: .box b2 [(i64 1), (str (markP (s))), (i64 0), (i64 0), (str []), (str []), (.bool false), (i64 0), (i64 0)] 33 :: Rs)) rfl rfl (fun w20 hS21 => ?_)
     refine RL.a rfl rfl (RL.u (.assign .c) rfl ?_)
     refine RL.nil (CW.at [Y 4 (.pointer (some ⟨b2, 0, none⟩)), Y 5 (i64 (len (markP (s)))), Y 6 (i64 0)] rfl ?_)
     refine CW.ret (retR3 (P := Tryz.prog) (fn := Tryz.f16) (R := fun e w' => ∃ v, e = .returned v ∧ ∃ cs' X' M', v = .tuple #[.agg (Tk.cells (tokP s).1).toArray, i64 (tokP s).2.1, i64 (tokP s).2.2] ∧ MarkOk M' cs' X' ∧ St w M0 w' M' (.box b cs' 51 :: X' :: Rs) ∧ M.le M') rfl (.boxN hS21 (i := 2) rfl rfl Tryz.isAgg33 Tryz.sizeOf33) (show RV _ _ _ (.tmp _) _ from rfl) (show RV _ _ _ (.tmp _) _ from rfl) ?_)
     replace hS21 : St w M0 w20 M17 (.box b cs12 51 :: X13 :: Rs) := hS21.erase 2 rfl
     have hq : tokP s = ((⟨1, markP (s), ⟨0, 0, [], [], false, 0⟩, 0⟩ : Tk), len (markP (s)), 0) := by
      unfold tokP
      rw [if_neg (by first | assumption | omega | (simp_all; done) | grind), if_neg (by first | assumption | omega | (simp_all; done) | grind), if_pos (by first | assumption | omega | (simp_all; done) | grind)]
      try rfl
     exact ⟨_, rfl, _, _, _, by rw [hq]; rfl, hm14, hS21, (hle19)⟩
    ·try simp only [zb] at hb4
     refine CW.skip (CW.at [Y 1 (str s), Y 4 (.pointer (some ⟨b2, 0, none⟩))] rfl ?_)
     refine CW.seq ?_
     refine CW.sr ?_
     refine RL.m rfl rfl ?_
     refine RL.callE hS18 .none Tryz.call20 (.cons (.t rfl) .nil) (fun _ => (word_c (s) _ (by omega))) rfl (fun w22 hS23 => ?_)
     refine RL.a rfl rfl ?_
     refine RL.nil (CW.at [Y 1 (str s), Y 4 (.pointer (some ⟨b2, 0, none⟩)), Y 12 (str (wordP (s)))] rfl ?_)
     refine CW.sr ?_
     refine RL.m rfl rfl (RL.u (.sneq (.t rfl) .c) rfl ?_)
     refine RL.nil (CW.at [Y 1 (str s), Y 4 (.pointer (some ⟨b2, 0, none⟩)), Y 12 (str (wordP (s))), Y 61 (.bool (!((wordP (s)) == ([]))))] rfl ?_)
     refine CW.cond rfl (fun hb5 => ?_) (fun hb5 => ?_)
     ·try simp only [zb] at hb5
      refine CW.sr ?_
      refine RL.m rfl rfl (RL.u (.build (vs := [(0, (i64 2)), (1, (str (wordP (s))))]) (v := (.agg #[(i64 2), (str (wordP (s))), (i64 0), (i64 0), (str []), (str []), (.bool false), (i64 0), (i64 0)])) (.cons .c (.cons (.t rfl) .nil)) (fun w => by kernel_rfl)) rfl (RL.m rfl rfl (RL.u (.lenS (.t rfl) Tryz.underlying9) rfl ?_)))
      refine RL.st hS23 (i := 2) rfl (.t rfl) (.t rfl) Tryz.sizeOf33 rfl rfl rfl (Hs' := (.box b cs12 51 :: X13 :: .box b2 [(i64 2), (str (wordP (s))), (i64 0), (i64 0), (str []), (str []), (.bool false), (i64 0), (i64 0)] 33 :: Rs)) rfl rfl (fun w24 hS25 => ?_)
      refine RL.a rfl rfl (RL.u (.assign .c) rfl ?_)
      refine RL.nil (CW.at [Y 4 (.pointer (some ⟨b2, 0, none⟩)), Y 5 (i64 (len (wordP (s)))), Y 6 (i64 0)] rfl ?_)
      refine CW.ret (retR3 (P := Tryz.prog) (fn := Tryz.f16) (R := fun e w' => ∃ v, e = .returned v ∧ ∃ cs' X' M', v = .tuple #[.agg (Tk.cells (tokP s).1).toArray, i64 (tokP s).2.1, i64 (tokP s).2.2] ∧ MarkOk M' cs' X' ∧ St w M0 w' M' (.box b cs' 51 :: X' :: Rs) ∧ M.le M') rfl (.boxN hS25 (i := 2) rfl rfl Tryz.isAgg33 Tryz.sizeOf33) (show RV _ _ _ (.tmp _) _ from rfl) (show RV _ _ _ (.tmp _) _ from rfl) ?_)
      replace hS25 : St w M0 w24 M17 (.box b cs12 51 :: X13 :: Rs) := hS25.erase 2 rfl
      have hq : tokP s = ((⟨2, wordP (s), ⟨0, 0, [], [], false, 0⟩, 0⟩ : Tk), len (wordP (s)), 0) := by
       unfold tokP
       rw [if_neg (by first | assumption | omega | (simp_all; done) | grind), if_neg (by first | assumption | omega | (simp_all; done) | grind), if_neg (by first | assumption | omega | (simp_all; done) | grind), if_pos (by first | assumption | omega | (simp_all; done) | grind)]
       try rfl
      exact ⟨_, rfl, _, _, _, by rw [hq]; rfl, hm14, hS25, (hle19)⟩
     ·try simp only [zb] at hb5
      refine CW.skip (CW.at [Y 1 (str s), Y 4 (.pointer (some ⟨b2, 0, none⟩))] rfl ?_)
      refine CW.seq ?_
      refine CW.sr ?_
      refine RL.m rfl rfl (RL.u (.idxS (.t rfl) .c Tryz.underlying9 (fun _ => by omega)) rfl (RL.a rfl rfl ?_))
      refine RL.nil (CW.at [Y 1 (str s), Y 4 (.pointer (some ⟨b2, 0, none⟩)), Y 13 (.int .u8 (byteAt (s) (0)))] rfl ?_)
      refine CW.block ?_
      refine CW.sr ?_
      refine RL.m rfl rfl (RL.u (.eql (.t rfl) .c) rfl (RL.a rfl rfl ?_))
      refine RL.nil (CW.at [Y 1 (str s), Y 4 (.pointer (some ⟨b2, 0, none⟩)), Y 13 (.int .u8 (byteAt (s) (0))), Y 68 (.bool ((byteAt (s) (0)) == (34)))] rfl ?_)
      refine CW.cond rfl (fun hb6 => ?_) (fun hb6 => ?_)
      ·try simp only [zb] at hb6
       refine CW.sr ?_
       refine RL.m rfl rfl ?_
       refine RL.callE hS23 .none Tryz.call30 (.cons (.t rfl) .nil) (fun _ => (unquote_c (s) _ (hg.low hS23.low) (by first | omega | exact Int.le_trans (from_bd _ _).2 (by omega)))) rfl (fun w26 hS27 => ?_)
       refine RL.m rfl rfl (RL.u (.ex (.t rfl) rfl) rfl (RL.u (.ex (.t rfl) rfl) rfl (RL.u (.ex (.t rfl) rfl) rfl (RL.a rfl rfl (RL.a rfl rfl ?_)))))
       refine RL.a rfl rfl ?_
       refine RL.nil (CW.at [Y 4 (.pointer (some ⟨b2, 0, none⟩)), Y 14 (str ((unqP (s)).1)), Y 15 (i64 ((unqP (s)).2.1)), Y 16 (i64 ((unqP (s)).2.2))] rfl ?_)
       refine CW.sr ?_
       refine RL.m rfl rfl (RL.u (.build (vs := [(0, (i64 4)), (1, (str ((unqP (s)).1)))]) (v := (.agg #[(i64 4), (str ((unqP (s)).1)), (i64 0), (i64 0), (str []), (str []), (.bool false), (i64 0), (i64 0)])) (.cons .c (.cons (.t rfl) .nil)) (fun w => by kernel_rfl)) rfl (RL.m rfl rfl (RL.m rfl rfl ?_)))
       refine RL.st hS27 (i := 2) rfl (.t rfl) (.t rfl) Tryz.sizeOf33 rfl rfl rfl (Hs' := (.box b cs12 51 :: X13 :: .box b2 [(i64 4), (str ((unqP (s)).1)), (i64 0), (i64 0), (str []), (str []), (.bool false), (i64 0), (i64 0)] 33 :: Rs)) rfl rfl (fun w28 hS29 => ?_)
       refine RL.a rfl rfl (RL.a rfl rfl ?_)
       refine RL.nil (CW.at [Y 4 (.pointer (some ⟨b2, 0, none⟩)), Y 5 (i64 ((unqP (s)).2.1)), Y 6 (i64 ((unqP (s)).2.2))] rfl ?_)
       refine CW.ret (retR3 (P := Tryz.prog) (fn := Tryz.f16) (R := fun e w' => ∃ v, e = .returned v ∧ ∃ cs' X' M', v = .tuple #[.agg (Tk.cells (tokP s).1).toArray, i64 (tokP s).2.1, i64 (tokP s).2.2] ∧ MarkOk M' cs' X' ∧ St w M0 w' M' (.box b cs' 51 :: X' :: Rs) ∧ M.le M') rfl (.boxN hS29 (i := 2) rfl rfl Tryz.isAgg33 Tryz.sizeOf33) (show RV _ _ _ (.tmp _) _ from rfl) (show RV _ _ _ (.tmp _) _ from rfl) ?_)
       replace hS29 : St w M0 w28 M17 (.box b cs12 51 :: X13 :: Rs) := hS29.erase 2 rfl
       have hq : tokP s = ((⟨4, (unqP (s)).1, ⟨0, 0, [], [], false, 0⟩, 0⟩ : Tk), (unqP (s)).2.1, (unqP (s)).2.2) := by
        unfold tokP
        rw [if_neg (by first | assumption | omega | (simp_all; done) | grind), if_neg (by first | assumption | omega | (simp_all; done) | grind), if_neg (by first | assumption | omega | (simp_all; done) | grind), if_neg (by first | assumption | omega | (simp_all; done) | grind), if_pos (by first | assumption | omega | (simp_all; done) | grind)]
        try rfl
       exact ⟨_, rfl, _, _, _, by rw [hq]; rfl, hm14, hS29, (hle19)⟩
      ·try simp only [zb] at hb6
       refine CW.sr ?_
       refine RL.m rfl rfl (RL.u (.eql (.t rfl) .c) rfl (RL.m rfl rfl (RL.v (.neg rfl rfl) (.move (.t rfl)) rfl (RL.v (.neg rfl rfl) (.geq (.g rfl (fun h => h)) .c) rfl (RL.v (.neg rfl rfl) (.move (.g rfl (fun h => h))) rfl ?_)))))
       refine RL.v (.posG rfl rfl) (.move (.t rfl)) rfl (RL.v (.posG rfl rfl) (.leq (.g rfl (fun h => h)) .c) rfl (RL.v (.neg rfl rfl) (.and (.g rfl (fun h => h)) (.g rfl (fun h => h))) rfl (RL.u (.or (.t rfl) (.g rfl (fun h => h))) rfl (RL.a rfl rfl ?_))))
       refine RL.nil (CW.at [Y 1 (str s), Y 4 (.pointer (some ⟨b2, 0, none⟩)), Y 81 (.bool (((byteAt (s) (0)) == (45)) || ((decide ((48) ≤ (byteAt (s) (0)))) && (decide ((byteAt (s) (0)) ≤ (57))))))] rfl ?_)
       refine CW.cond rfl (fun hb7 => ?_) (fun hb7 => ?_)
       ·try simp only [zb] at hb7
        refine CW.sr ?_
        refine RL.m rfl rfl (RL.m rfl rfl (RL.u (.lenS (.t rfl) Tryz.underlying9) rfl (RL.m rfl rfl ?_)))
        refine RL.callE hS23 .none Tryz.call15 (.cons (.t rfl) (.cons .c .nil)) (fun _ => (trimN_c (s) _)) rfl (fun w30 hS31 => ?_)
        refine RL.u (.lenS (.t rfl) Tryz.underlying9) rfl (RL.u (.sub (.t rfl) (.t rfl) (fun _ => by omega)) rfl (RL.u (.slSh (.t rfl) (.t rfl) Tryz.underlying9 (fun _ => by omega)) rfl (RL.a rfl rfl ?_)))
        refine RL.nil (CW.at [Y 4 (.pointer (some ⟨b2, 0, none⟩)), Y 17 (str (Eng.sub (s) 0 ((len (s)) - (len (dropN (s))))))] rfl ?_)
        refine CW.sr ?_
        refine RL.m rfl rfl ?_
        refine RL.callE hS31 .none Tryz.call32 (.cons (.t rfl) .nil) (fun _ => (read_c (Eng.sub (s) 0 ((len (s)) - (len (dropN (s))))) _ (hg.low hS31.low) (by omega))) rfl (fun w32 hS33 => ?_)
        refine RL.m rfl rfl (RL.u (.ex (.t rfl) rfl) rfl (RL.u (.ex (.t rfl) rfl) rfl (RL.u (.ex (.t rfl) rfl) rfl ?_)))
        refine RL.alloc hS33 Tryz.zeroValue31 rfl (fun w34 b35 hS36 => ?_)
        replace hS36 : St w M0 w34 M17 (.box b35 [(i64 0), (i64 0), (str []), (str []), (.bool false), (i64 0)] 31 :: .box b cs12 51 :: X13 :: .box b2 [(i64 0), (str []), (i64 0), (i64 0), (str []), (str []), (.bool false), (i64 0), (i64 0)] 33 :: Rs) := hS36
        refine RL.st hS36 (i := 0) rfl (.t rfl) (.t rfl) Tryz.sizeOf31 rfl rfl rfl (Hs' := (.box b35 (ndC ((read1 (Eng.sub (s) 0 ((len (s)) - (len (dropN (s)))))).1) []) 31 :: .box b cs12 51 :: X13 :: .box b2 [(i64 0), (str []), (i64 0), (i64 0), (str []), (str []), (.bool false), (i64 0), (i64 0)] 33 :: Rs)) rfl rfl (fun w37 hS38 => ?_)
        refine RL.a rfl rfl (RL.a rfl rfl ?_)
        refine RL.nil (CW.at [Y 4 (.pointer (some ⟨b2, 0, none⟩)), Y 17 (str (Eng.sub (s) 0 ((len (s)) - (len (dropN (s)))))), Y 18 (.pointer (some ⟨b35, 0, none⟩)), Y 19 (i64 ((read1 (Eng.sub (s) 0 ((len (s)) - (len (dropN (s)))))).2.1)), Y 20 (i64 ((read1 (Eng.sub (s) 0 ((len (s)) - (len (dropN (s)))))).2.2))] rfl ?_)
        refine CW.seq ?_
        refine CW.sr ?_
        refine RL.m rfl rfl (RL.u (.neq (.t rfl) .c) rfl ?_)
        refine RL.nil (CW.at [Y 4 (.pointer (some ⟨b2, 0, none⟩)), Y 17 (str (Eng.sub (s) 0 ((len (s)) - (len (dropN (s)))))), Y 18 (.pointer (some ⟨b35, 0, none⟩)), Y 19 (i64 ((read1 (Eng.sub (s) 0 ((len (s)) - (len (dropN (s)))))).2.1)), Y 20 (i64 ((read1 (Eng.sub (s) 0 ((len (s)) - (len (dropN (s)))))).2.2)), Y 107 (.bool (((read1 (Eng.sub (s) 0 ((len (s)) - (len (dropN (s)))))).2.2) != (0)))] rfl ?_)
        refine CW.cond rfl (fun hb8 => ?_) (fun hb8 => ?_)
        ·try simp only [zb] at hb8
         rw [hrn] at hb8
         refine CW.sr ?_
         refine RL.u (.build (vs := []) (v := (.agg #[(i64 0), (str []), (i64 0), (i64 0), (str []), (str []), (.bool false), (i64 0), (i64 0)])) .nil (fun w => by kernel_rfl)) rfl (RL.m rfl rfl (RL.m rfl rfl ?_))
         refine RL.st hS38 (i := 3) rfl (.t rfl) (.t rfl) Tryz.sizeOf33 rfl rfl rfl (Hs' := (.box b35 (ndC ((read1 (Eng.sub (s) 0 ((len (s)) - (len (dropN (s)))))).1) []) 31 :: .box b cs12 51 :: X13 :: .box b2 [(i64 0), (str []), (i64 0), (i64 0), (str []), (str []), (.bool false), (i64 0), (i64 0)] 33 :: Rs)) rfl rfl (fun w39 hS40 => ?_)
         refine RL.a rfl rfl (RL.a rfl rfl ?_)
         refine RL.nil (CW.at [Y 4 (.pointer (some ⟨b2, 0, none⟩)), Y 5 (i64 ((read1 (Eng.sub (s) 0 ((len (s)) - (len (dropN (s)))))).2.1)), Y 6 (i64 ((read1 (Eng.sub (s) 0 ((len (s)) - (len (dropN (s)))))).2.2))] rfl ?_)
         refine CW.ret (retR3 (P := Tryz.prog) (fn := Tryz.f16) (R := fun e w' => ∃ v, e = .returned v ∧ ∃ cs' X' M', v = .tuple #[.agg (Tk.cells (tokP s).1).toArray, i64 (tokP s).2.1, i64 (tokP s).2.2] ∧ MarkOk M' cs' X' ∧ St w M0 w' M' (.box b cs' 51 :: X' :: Rs) ∧ M.le M') rfl (.boxN hS40 (i := 3) rfl rfl Tryz.isAgg33 Tryz.sizeOf33) (show RV _ _ _ (.tmp _) _ from rfl) (show RV _ _ _ (.tmp _) _ from rfl) ?_)
         replace hS40 : St w M0 w39 M17 (.box b35 (ndC ((read1 (Eng.sub (s) 0 ((len (s)) - (len (dropN (s)))))).1) []) 31 :: .box b cs12 51 :: X13 :: Rs) := hS40.erase 3 rfl
         replace hS40 : St w M0 w39 M17 (.box b cs12 51 :: X13 :: Rs) := hS40.erase 0 rfl
         have hq : tokP s = ((⟨0, [], ⟨0, 0, [], [], false, 0⟩, 0⟩ : Tk), (read1 (Eng.sub (s) 0 ((len (s)) - (len (dropN (s)))))).2.1, (read1 (Eng.sub (s) 0 ((len (s)) - (len (dropN (s)))))).2.2) := by
          unfold tokP
          rw [if_neg (by first | assumption | omega | (simp_all; done) | grind), if_neg (by first | assumption | omega | (simp_all; done) | grind), if_neg (by first | assumption | omega | (simp_all; done) | grind), if_neg (by first | assumption | omega | (simp_all; done) | grind), if_neg (by first | assumption | omega | (simp_all; done) | grind), if_pos (by first | assumption | omega | (simp_all; done) | grind), if_pos (by first | assumption | omega | (simp_all; done) | grind)]
          try rfl
         exact ⟨_, rfl, _, _, _, by rw [hq]; rfl, hm14, hS40, (hle19)⟩
        ·try simp only [zb] at hb8
         rw [hrn] at hb8
         refine CW.skip (CW.at [Y 4 (.pointer (some ⟨b2, 0, none⟩)), Y 17 (str (Eng.sub (s) 0 ((len (s)) - (len (dropN (s)))))), Y 18 (.pointer (some ⟨b35, 0, none⟩))] rfl ?_)
         refine CW.sr ?_
         refine RL.u (.loadBN (vs := (ndC ((read1 (Eng.sub (s) 0 ((len (s)) - (len (dropN (s)))))).1) [])) hS38 extEq (i := 0) rfl (.t rfl) Tryz.isAgg31 Tryz.sizeOf31 rfl rfl) rfl (RL.u (.build (vs := [(0, (i64 5)), (2, (ndV ((read1 (Eng.sub (s) 0 ((len (s)) - (len (dropN (s)))))).1)))]) (v := (.agg ⟨((i64 5) :: ((str []) :: (ndC ((read1 (Eng.sub (s) 0 ((len (s)) - (len (dropN (s)))))).1) ((i64 0) :: []))))⟩)) (.cons .c (.cons (.t rfl) .nil)) (fun w => by kernel_rfl)) rfl (RL.m rfl rfl (RL.u (.lenS (.t rfl) Tryz.underlying9) rfl ?_)))
         refine RL.st hS38 (i := 3) rfl (.t rfl) (.t rfl) Tryz.sizeOf33 rfl rfl rfl (Hs' := (.box b35 (ndC ((read1 (Eng.sub (s) 0 ((len (s)) - (len (dropN (s)))))).1) []) 31 :: .box b cs12 51 :: X13 :: .box b2 ((i64 5) :: ((str []) :: (ndC ((read1 (Eng.sub (s) 0 ((len (s)) - (len (dropN (s)))))).1) ((i64 0) :: [])))) 33 :: Rs)) rfl rfl (fun w41 hS42 => ?_)
         refine RL.a rfl rfl (RL.u (.assign .c) rfl ?_)
         refine RL.nil (CW.at [Y 4 (.pointer (some ⟨b2, 0, none⟩)), Y 5 (i64 (len (Eng.sub (s) 0 ((len (s)) - (len (dropN (s))))))), Y 6 (i64 0)] rfl ?_)
         refine CW.ret (retR3 (P := Tryz.prog) (fn := Tryz.f16) (R := fun e w' => ∃ v, e = .returned v ∧ ∃ cs' X' M', v = .tuple #[.agg (Tk.cells (tokP s).1).toArray, i64 (tokP s).2.1, i64 (tokP s).2.2] ∧ MarkOk M' cs' X' ∧ St w M0 w' M' (.box b cs' 51 :: X' :: Rs) ∧ M.le M') rfl (.boxN hS42 (i := 3) rfl rfl Tryz.isAgg33 Tryz.sizeOf33) (show RV _ _ _ (.tmp _) _ from rfl) (show RV _ _ _ (.tmp _) _ from rfl) ?_)
         replace hS42 : St w M0 w41 M17 (.box b35 (ndC ((read1 (Eng.sub (s) 0 ((len (s)) - (len (dropN (s)))))).1) []) 31 :: .box b cs12 51 :: X13 :: Rs) := hS42.erase 3 rfl
         replace hS42 : St w M0 w41 M17 (.box b cs12 51 :: X13 :: Rs) := hS42.erase 0 rfl
         have hq : tokP s = ((⟨5, [], (read1 (Eng.sub (s) 0 ((len (s)) - (len (dropN (s)))))).1, 0⟩ : Tk), len (Eng.sub (s) 0 ((len (s)) - (len (dropN (s))))), 0) := by
          unfold tokP
          rw [if_neg (by first | assumption | omega | (simp_all; done) | grind), if_neg (by first | assumption | omega | (simp_all; done) | grind), if_neg (by first | assumption | omega | (simp_all; done) | grind), if_neg (by first | assumption | omega | (simp_all; done) | grind), if_neg (by first | assumption | omega | (simp_all; done) | grind), if_pos (by first | assumption | omega | (simp_all; done) | grind), if_neg (by first | assumption | omega | (simp_all; done) | grind)]
          try rfl
         exact ⟨_, rfl, _, _, _, by rw [hq]; rfl, hm14, hS42, (hle19)⟩
       ·try simp only [zb] at hb7
        refine CW.skip (CW.at [Y 4 (.pointer (some ⟨b2, 0, none⟩))] rfl ?_)
        refine CW.sr ?_
        refine RL.u (.build (vs := []) (v := (.agg #[(i64 0), (str []), (i64 0), (i64 0), (str []), (str []), (.bool false), (i64 0), (i64 0)])) .nil (fun w => by kernel_rfl)) rfl ?_
        refine RL.st hS23 (i := 2) rfl (.t rfl) (.t rfl) Tryz.sizeOf33 rfl rfl rfl (Hs' := (.box b cs12 51 :: X13 :: .box b2 [(i64 0), (str []), (i64 0), (i64 0), (str []), (str []), (.bool false), (i64 0), (i64 0)] 33 :: Rs)) rfl rfl (fun w43 hS44 => ?_)
        refine RL.u (.assign .c) rfl (RL.u (.assign .c) rfl ?_)
        refine RL.nil (CW.at [Y 4 (.pointer (some ⟨b2, 0, none⟩)), Y 5 (i64 0), Y 6 (i64 1)] rfl ?_)
        refine CW.ret (retR3 (P := Tryz.prog) (fn := Tryz.f16) (R := fun e w' => ∃ v, e = .returned v ∧ ∃ cs' X' M', v = .tuple #[.agg (Tk.cells (tokP s).1).toArray, i64 (tokP s).2.1, i64 (tokP s).2.2] ∧ MarkOk M' cs' X' ∧ St w M0 w' M' (.box b cs' 51 :: X' :: Rs) ∧ M.le M') rfl (.boxN hS44 (i := 2) rfl rfl Tryz.isAgg33 Tryz.sizeOf33) (show RV _ _ _ (.tmp _) _ from rfl) (show RV _ _ _ (.tmp _) _ from rfl) ?_)
        replace hS44 : St w M0 w43 M17 (.box b cs12 51 :: X13 :: Rs) := hS44.erase 2 rfl
        have hq : tokP s = ((⟨0, [], ⟨0, 0, [], [], false, 0⟩, 0⟩ : Tk), 0, 1) := by
         unfold tokP
         rw [if_neg (by first | assumption | omega | (simp_all; done) | grind), if_neg (by first | assumption | omega | (simp_all; done) | grind), if_neg (by first | assumption | omega | (simp_all; done) | grind), if_neg (by first | assumption | omega | (simp_all; done) | grind), if_neg (by first | assumption | omega | (simp_all; done) | grind), if_neg (by first | assumption | omega | (simp_all; done) | grind)]
         try rfl
        exact ⟨_, rfl, _, _, _, by rw [hq]; rfl, hm14, hS44, (hle19)⟩
 ·try simp only [zb] at hb1
  refine CW.skip (CW.at [Y 0 (.pointer (some ⟨b, 0, none⟩)), Y 1 (str s), Y 4 (.pointer (some ⟨b2, 0, none⟩))] rfl ?_)
  refine CW.seq ?_
  refine CW.sr ?_
  refine RL.m rfl rfl (RL.m rfl rfl ?_)
  replace hS3 : St w M0 w1 M (X :: .box b2 [(i64 0), (str []), (i64 0), (i64 0), (str []), (str []), (.bool false), (i64 0), (i64 0)] 33 :: .box b cs 51 :: Rs) := hS3.front 2 rfl rfl
  replace hS3 : St w M0 w1 M (.box b cs 51 :: X :: .box b2 [(i64 0), (str []), (i64 0), (i64 0), (str []), (str []), (.bool false), (i64 0), (i64 0)] 33 :: Rs) := hS3.front 2 rfl rfl
  refine RL.callP Tryz.call31 (.cons (.t rfl) (.cons (.t rfl) .nil)) (at_c (Rs := (.box b2 [(i64 0), (str []), (i64 0), (i64 0), (str []), (str []), (.bool false), (i64 0), (i64 0)] 33 :: Rs)) b cs X (s) hS3 (by assumption) hg (by omega) (by omega)) rfl ?_
  rintro v48 w49 ⟨cs45, X46, M50, rfl, hm47, hS51, hle52⟩
  replace hS51 : St w M0 w49 M50 (.box b cs45 51 :: X46 :: .box b2 [(i64 0), (str []), (i64 0), (i64 0), (str []), (str []), (.bool false), (i64 0), (i64 0)] 33 :: Rs) := hS51
  refine RL.a rfl rfl ?_
  refine RL.nil (CW.at [Y 1 (str s), Y 4 (.pointer (some ⟨b2, 0, none⟩)), Y 11 (str (markP (s)))] rfl ?_)
  refine CW.sr ?_
  refine RL.m rfl rfl (RL.u (.sneq (.t rfl) .c) rfl ?_)
  refine RL.nil (CW.at [Y 1 (str s), Y 4 (.pointer (some ⟨b2, 0, none⟩)), Y 11 (str (markP (s))), Y 53 (.bool (!((markP (s)) == ([]))))] rfl ?_)
  refine CW.cond rfl (fun hb9 => ?_) (fun hb9 => ?_)
  ·try simp only [zb] at hb9
   refine CW.sr ?_
   refine RL.m rfl rfl (RL.u (.build (vs := [(0, (i64 1)), (1, (str (markP (s))))]) (v := (.agg #[(i64 1), (str (markP (s))), (i64 0), (i64 0), (str []), (str []), (.bool false), (i64 0), (i64 0)])) (.cons .c (.cons (.t rfl) .nil)) (fun w => by kernel_rfl)) rfl (RL.m rfl rfl (RL.u (.lenS (.t rfl) Tryz.underlying9) rfl ?_)))
   refine RL.st hS51 (i := 2) rfl (.t rfl) (.t rfl) Tryz.sizeOf33 rfl rfl rfl (Hs' := (.box b cs45 51 :: X46 :: .box b2 [(i64 1), (str (markP (s))), (i64 0), (i64 0), (str []), (str []), (.bool false), (i64 0), (i64 0)] 33 :: Rs)) rfl rfl (fun w53 hS54 => ?_)
   refine RL.a rfl rfl (RL.u (.assign .c) rfl ?_)
   refine RL.nil (CW.at [Y 4 (.pointer (some ⟨b2, 0, none⟩)), Y 5 (i64 (len (markP (s)))), Y 6 (i64 0)] rfl ?_)
   refine CW.ret (retR3 (P := Tryz.prog) (fn := Tryz.f16) (R := fun e w' => ∃ v, e = .returned v ∧ ∃ cs' X' M', v = .tuple #[.agg (Tk.cells (tokP s).1).toArray, i64 (tokP s).2.1, i64 (tokP s).2.2] ∧ MarkOk M' cs' X' ∧ St w M0 w' M' (.box b cs' 51 :: X' :: Rs) ∧ M.le M') rfl (.boxN hS54 (i := 2) rfl rfl Tryz.isAgg33 Tryz.sizeOf33) (show RV _ _ _ (.tmp _) _ from rfl) (show RV _ _ _ (.tmp _) _ from rfl) ?_)
   replace hS54 : St w M0 w53 M50 (.box b cs45 51 :: X46 :: Rs) := hS54.erase 2 rfl
   have hq : tokP s = ((⟨1, markP (s), ⟨0, 0, [], [], false, 0⟩, 0⟩ : Tk), len (markP (s)), 0) := by
    unfold tokP
    rw [if_neg (by first | assumption | omega | (simp_all; done) | grind), if_neg (by first | assumption | omega | (simp_all; done) | grind), if_pos (by first | assumption | omega | (simp_all; done) | grind)]
    try rfl
   exact ⟨_, rfl, _, _, _, by rw [hq]; rfl, hm47, hS54, (hle52)⟩
  ·try simp only [zb] at hb9
   refine CW.skip (CW.at [Y 1 (str s), Y 4 (.pointer (some ⟨b2, 0, none⟩))] rfl ?_)
   refine CW.seq ?_
   refine CW.sr ?_
   refine RL.m rfl rfl ?_
   refine RL.callE hS51 .none Tryz.call20 (.cons (.t rfl) .nil) (fun _ => (word_c (s) _ (by omega))) rfl (fun w55 hS56 => ?_)
   refine RL.a rfl rfl ?_
   refine RL.nil (CW.at [Y 1 (str s), Y 4 (.pointer (some ⟨b2, 0, none⟩)), Y 12 (str (wordP (s)))] rfl ?_)
   refine CW.sr ?_
   refine RL.m rfl rfl (RL.u (.sneq (.t rfl) .c) rfl ?_)
   refine RL.nil (CW.at [Y 1 (str s), Y 4 (.pointer (some ⟨b2, 0, none⟩)), Y 12 (str (wordP (s))), Y 61 (.bool (!((wordP (s)) == ([]))))] rfl ?_)
   refine CW.cond rfl (fun hb10 => ?_) (fun hb10 => ?_)
   ·try simp only [zb] at hb10
    refine CW.sr ?_
    refine RL.m rfl rfl (RL.u (.build (vs := [(0, (i64 2)), (1, (str (wordP (s))))]) (v := (.agg #[(i64 2), (str (wordP (s))), (i64 0), (i64 0), (str []), (str []), (.bool false), (i64 0), (i64 0)])) (.cons .c (.cons (.t rfl) .nil)) (fun w => by kernel_rfl)) rfl (RL.m rfl rfl (RL.u (.lenS (.t rfl) Tryz.underlying9) rfl ?_)))
    refine RL.st hS56 (i := 2) rfl (.t rfl) (.t rfl) Tryz.sizeOf33 rfl rfl rfl (Hs' := (.box b cs45 51 :: X46 :: .box b2 [(i64 2), (str (wordP (s))), (i64 0), (i64 0), (str []), (str []), (.bool false), (i64 0), (i64 0)] 33 :: Rs)) rfl rfl (fun w57 hS58 => ?_)
    refine RL.a rfl rfl (RL.u (.assign .c) rfl ?_)
    refine RL.nil (CW.at [Y 4 (.pointer (some ⟨b2, 0, none⟩)), Y 5 (i64 (len (wordP (s)))), Y 6 (i64 0)] rfl ?_)
    refine CW.ret (retR3 (P := Tryz.prog) (fn := Tryz.f16) (R := fun e w' => ∃ v, e = .returned v ∧ ∃ cs' X' M', v = .tuple #[.agg (Tk.cells (tokP s).1).toArray, i64 (tokP s).2.1, i64 (tokP s).2.2] ∧ MarkOk M' cs' X' ∧ St w M0 w' M' (.box b cs' 51 :: X' :: Rs) ∧ M.le M') rfl (.boxN hS58 (i := 2) rfl rfl Tryz.isAgg33 Tryz.sizeOf33) (show RV _ _ _ (.tmp _) _ from rfl) (show RV _ _ _ (.tmp _) _ from rfl) ?_)
    replace hS58 : St w M0 w57 M50 (.box b cs45 51 :: X46 :: Rs) := hS58.erase 2 rfl
    have hq : tokP s = ((⟨2, wordP (s), ⟨0, 0, [], [], false, 0⟩, 0⟩ : Tk), len (wordP (s)), 0) := by
     unfold tokP
     rw [if_neg (by first | assumption | omega | (simp_all; done) | grind), if_neg (by first | assumption | omega | (simp_all; done) | grind), if_neg (by first | assumption | omega | (simp_all; done) | grind), if_pos (by first | assumption | omega | (simp_all; done) | grind)]
     try rfl
    exact ⟨_, rfl, _, _, _, by rw [hq]; rfl, hm47, hS58, (hle52)⟩
   ·try simp only [zb] at hb10
    refine CW.skip (CW.at [Y 1 (str s), Y 4 (.pointer (some ⟨b2, 0, none⟩))] rfl ?_)
    refine CW.seq ?_
    refine CW.sr ?_
    refine RL.m rfl rfl (RL.u (.idxS (.t rfl) .c Tryz.underlying9 (fun _ => by omega)) rfl (RL.a rfl rfl ?_))
    refine RL.nil (CW.at [Y 1 (str s), Y 4 (.pointer (some ⟨b2, 0, none⟩)), Y 13 (.int .u8 (byteAt (s) (0)))] rfl ?_)
    refine CW.block ?_
    refine CW.sr ?_
    refine RL.m rfl rfl (RL.u (.eql (.t rfl) .c) rfl (RL.a rfl rfl ?_))
    refine RL.nil (CW.at [Y 1 (str s), Y 4 (.pointer (some ⟨b2, 0, none⟩)), Y 13 (.int .u8 (byteAt (s) (0))), Y 68 (.bool ((byteAt (s) (0)) == (34)))] rfl ?_)
    refine CW.cond rfl (fun hb11 => ?_) (fun hb11 => ?_)
    ·try simp only [zb] at hb11
     refine CW.sr ?_
     refine RL.m rfl rfl ?_
     refine RL.callE hS56 .none Tryz.call30 (.cons (.t rfl) .nil) (fun _ => (unquote_c (s) _ (hg.low hS56.low) (by first | omega | exact Int.le_trans (from_bd _ _).2 (by omega)))) rfl (fun w59 hS60 => ?_)
     refine RL.m rfl rfl (RL.u (.ex (.t rfl) rfl) rfl (RL.u (.ex (.t rfl) rfl) rfl (RL.u (.ex (.t rfl) rfl) rfl (RL.a rfl rfl (RL.a rfl rfl ?_)))))
     refine RL.a rfl rfl ?_
     refine RL.nil (CW.at [Y 4 (.pointer (some ⟨b2, 0, none⟩)), Y 14 (str ((unqP (s)).1)), Y 15 (i64 ((unqP (s)).2.1)), Y 16 (i64 ((unqP (s)).2.2))] rfl ?_)
     refine CW.sr ?_
     refine RL.m rfl rfl (RL.u (.build (vs := [(0, (i64 4)), (1, (str ((unqP (s)).1)))]) (v := (.agg #[(i64 4), (str ((unqP (s)).1)), (i64 0), (i64 0), (str []), (str []), (.bool false), (i64 0), (i64 0)])) (.cons .c (.cons (.t rfl) .nil)) (fun w => by kernel_rfl)) rfl (RL.m rfl rfl (RL.m rfl rfl ?_)))
     refine RL.st hS60 (i := 2) rfl (.t rfl) (.t rfl) Tryz.sizeOf33 rfl rfl rfl (Hs' := (.box b cs45 51 :: X46 :: .box b2 [(i64 4), (str ((unqP (s)).1)), (i64 0), (i64 0), (str []), (str []), (.bool false), (i64 0), (i64 0)] 33 :: Rs)) rfl rfl (fun w61 hS62 => ?_)
     refine RL.a rfl rfl (RL.a rfl rfl ?_)
     refine RL.nil (CW.at [Y 4 (.pointer (some ⟨b2, 0, none⟩)), Y 5 (i64 ((unqP (s)).2.1)), Y 6 (i64 ((unqP (s)).2.2))] rfl ?_)
     refine CW.ret (retR3 (P := Tryz.prog) (fn := Tryz.f16) (R := fun e w' => ∃ v, e = .returned v ∧ ∃ cs' X' M', v = .tuple #[.agg (Tk.cells (tokP s).1).toArray, i64 (tokP s).2.1, i64 (tokP s).2.2] ∧ MarkOk M' cs' X' ∧ St w M0 w' M' (.box b cs' 51 :: X' :: Rs) ∧ M.le M') rfl (.boxN hS62 (i := 2) rfl rfl Tryz.isAgg33 Tryz.sizeOf33) (show RV _ _ _ (.tmp _) _ from rfl) (show RV _ _ _ (.tmp _) _ from rfl) ?_)
     replace hS62 : St w M0 w61 M50 (.box b cs45 51 :: X46 :: Rs) := hS62.erase 2 rfl
     have hq : tokP s = ((⟨4, (unqP (s)).1, ⟨0, 0, [], [], false, 0⟩, 0⟩ : Tk), (unqP (s)).2.1, (unqP (s)).2.2) := by
      unfold tokP
      rw [if_neg (by first | assumption | omega | (simp_all; done) | grind), if_neg (by first | assumption | omega | (simp_all; done) | grind), if_neg (by first | assumption | omega | (simp_all; done) | grind), if_neg (by first | assumption | omega | (simp_all; done) | grind), if_pos (by first | assumption | omega | (simp_all; done) | grind)]
      try rfl
     exact ⟨_, rfl, _, _, _, by rw [hq]; rfl, hm47, hS62, (hle52)⟩
    ·try simp only [zb] at hb11
     refine CW.sr ?_
     refine RL.m rfl rfl (RL.u (.eql (.t rfl) .c) rfl (RL.m rfl rfl (RL.v (.neg rfl rfl) (.move (.t rfl)) rfl (RL.v (.neg rfl rfl) (.geq (.g rfl (fun h => h)) .c) rfl (RL.v (.neg rfl rfl) (.move (.g rfl (fun h => h))) rfl ?_)))))
     refine RL.v (.posG rfl rfl) (.move (.t rfl)) rfl (RL.v (.posG rfl rfl) (.leq (.g rfl (fun h => h)) .c) rfl (RL.v (.neg rfl rfl) (.and (.g rfl (fun h => h)) (.g rfl (fun h => h))) rfl (RL.u (.or (.t rfl) (.g rfl (fun h => h))) rfl (RL.a rfl rfl ?_))))
     refine RL.nil (CW.at [Y 1 (str s), Y 4 (.pointer (some ⟨b2, 0, none⟩)), Y 81 (.bool (((byteAt (s) (0)) == (45)) || ((decide ((48) ≤ (byteAt (s) (0)))) && (decide ((byteAt (s) (0)) ≤ (57))))))] rfl ?_)
     refine CW.cond rfl (fun hb12 => ?_) (fun hb12 => ?_)
     ·try simp only [zb] at hb12
      refine CW.sr ?_
      refine RL.m rfl rfl (RL.m rfl rfl (RL.u (.lenS (.t rfl) Tryz.underlying9) rfl (RL.m rfl rfl ?_)))
      refine RL.callE hS56 .none Tryz.call15 (.cons (.t rfl) (.cons .c .nil)) (fun _ => (trimN_c (s) _)) rfl (fun w63 hS64 => ?_)
      refine RL.u (.lenS (.t rfl) Tryz.underlying9) rfl (RL.u (.sub (.t rfl) (.t rfl) (fun _ => by omega)) rfl (RL.u (.slSh (.t rfl) (.t rfl) Tryz.underlying9 (fun _ => by omega)) rfl (RL.a rfl rfl ?_)))
      refine RL.nil (CW.at [Y 4 (.pointer (some ⟨b2, 0, none⟩)), Y 17 (str (Eng.sub (s) 0 ((len (s)) - (len (dropN (s))))))] rfl ?_)
      refine CW.sr ?_
      refine RL.m rfl rfl ?_
      refine RL.callE hS64 .none Tryz.call32 (.cons (.t rfl) .nil) (fun _ => (read_c (Eng.sub (s) 0 ((len (s)) - (len (dropN (s))))) _ (hg.low hS64.low) (by omega))) rfl (fun w65 hS66 => ?_)
      refine RL.m rfl rfl (RL.u (.ex (.t rfl) rfl) rfl (RL.u (.ex (.t rfl) rfl) rfl (RL.u (.ex (.t rfl) rfl) rfl ?_)))
      refine RL.alloc hS66 Tryz.zeroValue31 rfl (fun w67 b68 hS69 => ?_)
      replace hS69 : St w M0 w67 M50 (.box b68 [(i64 0), (i64 0), (str []), (str []), (.bool false), (i64 0)] 31 :: .box b cs45 51 :: X46 :: .box b2 [(i64 0), (str []), (i64 0), (i64 0), (str []), (str []), (.bool false), (i64 0), (i64 0)] 33 :: Rs) := hS69
      refine RL.st hS69 (i := 0) rfl (.t rfl) (.t rfl) Tryz.sizeOf31 rfl rfl rfl (Hs' := (.box b68 (ndC ((read1 (Eng.sub (s) 0 ((len (s)) - (len (dropN (s)))))).1) []) 31 :: .box b cs45 51 :: X46 :: .box b2 [(i64 0), (str []), (i64 0), (i64 0), (str []), (str []), (.bool false), (i64 0), (i64 0)] 33 :: Rs)) rfl rfl (fun w70 hS71 => ?_)
      refine RL.a rfl rfl (RL.a rfl rfl ?_)
      refine RL.nil (CW.at [Y 4 (.pointer (some ⟨b2, 0, none⟩)), Y 17 (str (Eng.sub (s) 0 ((len (s)) - (len (dropN (s)))))), Y 18 (.pointer (some ⟨b68, 0, none⟩)), Y 19 (i64 ((read1 (Eng.sub (s) 0 ((len (s)) - (len (dropN (s)))))).2.1)), Y 20 (i64 ((read1 (Eng.sub (s) 0 ((len (s)) - (len (dropN (s)))))).2.2))] rfl ?_)
      refine CW.seq ?_
      refine CW.sr ?_
      refine RL.m rfl rfl (RL.u (.neq (.t rfl) .c) rfl ?_)
      refine RL.nil (CW.at [Y 4 (.pointer (some ⟨b2, 0, none⟩)), Y 17 (str (Eng.sub (s) 0 ((len (s)) - (len (dropN (s)))))), Y 18 (.pointer (some ⟨b68, 0, none⟩)), Y 19 (i64 ((read1 (Eng.sub (s) 0 ((len (s)) - (len (dropN (s)))))).2.1)), Y 20 (i64 ((read1 (Eng.sub (s) 0 ((len (s)) - (len (dropN (s)))))).2.2)), Y 107 (.bool (((read1 (Eng.sub (s) 0 ((len (s)) - (len (dropN (s)))))).2.2) != (0)))] rfl ?_)
      refine CW.cond rfl (fun hb13 => ?_) (fun hb13 => ?_)
      ·try simp only [zb] at hb13
       rw [hrn] at hb13
       refine CW.sr ?_
       refine RL.u (.build (vs := []) (v := (.agg #[(i64 0), (str []), (i64 0), (i64 0), (str []), (str []), (.bool false), (i64 0), (i64 0)])) .nil (fun w => by kernel_rfl)) rfl (RL.m rfl rfl (RL.m rfl rfl ?_))
       refine RL.st hS71 (i := 3) rfl (.t rfl) (.t rfl) Tryz.sizeOf33 rfl rfl rfl (Hs' := (.box b68 (ndC ((read1 (Eng.sub (s) 0 ((len (s)) - (len (dropN (s)))))).1) []) 31 :: .box b cs45 51 :: X46 :: .box b2 [(i64 0), (str []), (i64 0), (i64 0), (str []), (str []), (.bool false), (i64 0), (i64 0)] 33 :: Rs)) rfl rfl (fun w72 hS73 => ?_)
       refine RL.a rfl rfl (RL.a rfl rfl ?_)
       refine RL.nil (CW.at [Y 4 (.pointer (some ⟨b2, 0, none⟩)), Y 5 (i64 ((read1 (Eng.sub (s) 0 ((len (s)) - (len (dropN (s)))))).2.1)), Y 6 (i64 ((read1 (Eng.sub (s) 0 ((len (s)) - (len (dropN (s)))))).2.2))] rfl ?_)
       refine CW.ret (retR3 (P := Tryz.prog) (fn := Tryz.f16) (R := fun e w' => ∃ v, e = .returned v ∧ ∃ cs' X' M', v = .tuple #[.agg (Tk.cells (tokP s).1).toArray, i64 (tokP s).2.1, i64 (tokP s).2.2] ∧ MarkOk M' cs' X' ∧ St w M0 w' M' (.box b cs' 51 :: X' :: Rs) ∧ M.le M') rfl (.boxN hS73 (i := 3) rfl rfl Tryz.isAgg33 Tryz.sizeOf33) (show RV _ _ _ (.tmp _) _ from rfl) (show RV _ _ _ (.tmp _) _ from rfl) ?_)
       replace hS73 : St w M0 w72 M50 (.box b68 (ndC ((read1 (Eng.sub (s) 0 ((len (s)) - (len (dropN (s)))))).1) []) 31 :: .box b cs45 51 :: X46 :: Rs) := hS73.erase 3 rfl
       replace hS73 : St w M0 w72 M50 (.box b cs45 51 :: X46 :: Rs) := hS73.erase 0 rfl
       have hq : tokP s = ((⟨0, [], ⟨0, 0, [], [], false, 0⟩, 0⟩ : Tk), (read1 (Eng.sub (s) 0 ((len (s)) - (len (dropN (s)))))).2.1, (read1 (Eng.sub (s) 0 ((len (s)) - (len (dropN (s)))))).2.2) := by
        unfold tokP
        rw [if_neg (by first | assumption | omega | (simp_all; done) | grind), if_neg (by first | assumption | omega | (simp_all; done) | grind), if_neg (by first | assumption | omega | (simp_all; done) | grind), if_neg (by first | assumption | omega | (simp_all; done) | grind), if_neg (by first | assumption | omega | (simp_all; done) | grind), if_pos (by first | assumption | omega | (simp_all; done) | grind), if_pos (by first | assumption | omega | (simp_all; done) | grind)]
        try rfl
       exact ⟨_, rfl, _, _, _, by rw [hq]; rfl, hm47, hS73, (hle52)⟩
      ·try simp only [zb] at hb13
       rw [hrn] at hb13
       refine CW.skip (CW.at [Y 4 (.pointer (some ⟨b2, 0, none⟩)), Y 17 (str (Eng.sub (s) 0 ((len (s)) - (len (dropN (s)))))), Y 18 (.pointer (some ⟨b68, 0, none⟩))] rfl ?_)
       refine CW.sr ?_
       refine RL.u (.loadBN (vs := (ndC ((read1 (Eng.sub (s) 0 ((len (s)) - (len (dropN (s)))))).1) [])) hS71 extEq (i := 0) rfl (.t rfl) Tryz.isAgg31 Tryz.sizeOf31 rfl rfl) rfl (RL.u (.build (vs := [(0, (i64 5)), (2, (ndV ((read1 (Eng.sub (s) 0 ((len (s)) - (len (dropN (s)))))).1)))]) (v := (.agg ⟨((i64 5) :: ((str []) :: (ndC ((read1 (Eng.sub (s) 0 ((len (s)) - (len (dropN (s)))))).1) ((i64 0) :: []))))⟩)) (.cons .c (.cons (.t rfl) .nil)) (fun w => by kernel_rfl)) rfl (RL.m rfl rfl (RL.u (.lenS (.t rfl) Tryz.underlying9) rfl ?_)))
       refine RL.st hS71 (i := 3) rfl (.t rfl) (.t rfl) Tryz.sizeOf33 rfl rfl rfl (Hs' := (.box b68 (ndC ((read1 (Eng.sub (s) 0 ((len (s)) - (len (dropN (s)))))).1) []) 31 :: .box b cs45 51 :: X46 :: .box b2 ((i64 5) :: ((str []) :: (ndC ((read1 (Eng.sub (s) 0 ((len (s)) - (len (dropN (s)))))).1) ((i64 0) :: [])))) 33 :: Rs)) rfl rfl (fun w74 hS75 => ?_)
       refine RL.a rfl rfl (RL.u (.assign .c) rfl ?_)
       refine RL.nil (CW.at [Y 4 (.pointer (some ⟨b2, 0, none⟩)), Y 5 (i64 (len (Eng.sub (s) 0 ((len (s)) - (len (dropN (s))))))), Y 6 (i64 0)] rfl ?_)
       refine CW.ret (retR3 (P := Tryz.prog) (fn := Tryz.f16) (R := fun e w' => ∃ v, e = .returned v ∧ ∃ cs' X' M', v = .tuple #[.agg (Tk.cells (tokP s).1).toArray, i64 (tokP s).2.1, i64 (tokP s).2.2] ∧ MarkOk M' cs' X' ∧ St w M0 w' M' (.box b cs' 51 :: X' :: Rs) ∧ M.le M') rfl (.boxN hS75 (i := 3) rfl rfl Tryz.isAgg33 Tryz.sizeOf33) (show RV _ _ _ (.tmp _) _ from rfl) (show RV _ _ _ (.tmp _) _ from rfl) ?_)
       replace hS75 : St w M0 w74 M50 (.box b68 (ndC ((read1 (Eng.sub (s) 0 ((len (s)) - (len (dropN (s)))))).1) []) 31 :: .box b cs45 51 :: X46 :: Rs) := hS75.erase 3 rfl
       replace hS75 : St w M0 w74 M50 (.box b cs45 51 :: X46 :: Rs) := hS75.erase 0 rfl
       have hq : tokP s = ((⟨5, [], (read1 (Eng.sub (s) 0 ((len (s)) - (len (dropN (s)))))).1, 0⟩ : Tk), len (Eng.sub (s) 0 ((len (s)) - (len (dropN (s))))), 0) := by
        unfold tokP
        rw [if_neg (by first | assumption | omega | (simp_all; done) | grind), if_neg (by first | assumption | omega | (simp_all; done) | grind), if_neg (by first | assumption | omega | (simp_all; done) | grind), if_neg (by first | assumption | omega | (simp_all; done) | grind), if_neg (by first | assumption | omega | (simp_all; done) | grind), if_pos (by first | assumption | omega | (simp_all; done) | grind), if_neg (by first | assumption | omega | (simp_all; done) | grind)]
        try rfl
       exact ⟨_, rfl, _, _, _, by rw [hq]; rfl, hm47, hS75, (hle52)⟩
     ·try simp only [zb] at hb12
      refine CW.skip (CW.at [Y 4 (.pointer (some ⟨b2, 0, none⟩))] rfl ?_)
      refine CW.sr ?_
      refine RL.u (.build (vs := []) (v := (.agg #[(i64 0), (str []), (i64 0), (i64 0), (str []), (str []), (.bool false), (i64 0), (i64 0)])) .nil (fun w => by kernel_rfl)) rfl ?_
      refine RL.st hS56 (i := 2) rfl (.t rfl) (.t rfl) Tryz.sizeOf33 rfl rfl rfl (Hs' := (.box b cs45 51 :: X46 :: .box b2 [(i64 0), (str []), (i64 0), (i64 0), (str []), (str []), (.bool false), (i64 0), (i64 0)] 33 :: Rs)) rfl rfl (fun w76 hS77 => ?_)
      refine RL.u (.assign .c) rfl (RL.u (.assign .c) rfl ?_)
      refine RL.nil (CW.at [Y 4 (.pointer (some ⟨b2, 0, none⟩)), Y 5 (i64 0), Y 6 (i64 1)] rfl ?_)
      refine CW.ret (retR3 (P := Tryz.prog) (fn := Tryz.f16) (R := fun e w' => ∃ v, e = .returned v ∧ ∃ cs' X' M', v = .tuple #[.agg (Tk.cells (tokP s).1).toArray, i64 (tokP s).2.1, i64 (tokP s).2.2] ∧ MarkOk M' cs' X' ∧ St w M0 w' M' (.box b cs' 51 :: X' :: Rs) ∧ M.le M') rfl (.boxN hS77 (i := 2) rfl rfl Tryz.isAgg33 Tryz.sizeOf33) (show RV _ _ _ (.tmp _) _ from rfl) (show RV _ _ _ (.tmp _) _ from rfl) ?_)
      replace hS77 : St w M0 w76 M50 (.box b cs45 51 :: X46 :: Rs) := hS77.erase 2 rfl
      have hq : tokP s = ((⟨0, [], ⟨0, 0, [], [], false, 0⟩, 0⟩ : Tk), 0, 1) := by
       unfold tokP
       rw [if_neg (by first | assumption | omega | (simp_all; done) | grind), if_neg (by first | assumption | omega | (simp_all; done) | grind), if_neg (by first | assumption | omega | (simp_all; done) | grind), if_neg (by first | assumption | omega | (simp_all; done) | grind), if_neg (by first | assumption | omega | (simp_all; done) | grind), if_neg (by first | assumption | omega | (simp_all; done) | grind)]
       try rfl
      exact ⟨_, rfl, _, _, _, by rw [hq]; rfl, hm47, hS77, (hle52)⟩

end Go.Proofs.YthdialbnlnjgpaaGreatDoor
