/-
  A strings.Builder that is embedded at the head of a box of three cells (text.printer): copyCheck, String; strings.Repeat of two blanks.
-/
import Derived.Test.YtjfaikgooldcbaaGreatDoorZt4
import Derived.Laws.BitsLemmas
import Derived.Test.YtjfaikgooldcbaaGreatDoorZt3
import Derived.Test.YtjfaikgooldcbaaGreatDoorProg
import Derived.Test.YtjfaikgooldcbaaGreatDoorZt14
import Derived.Test.YtjfaikgooldcbaaGreatDoorZt21
import Derived.Test.YtjfaikgooldcbaaGreatDoorZt16
import Derived.Test.YtjfaikgooldcbaaGreatDoorZt11
set_option linter.unusedVariables false
set_option linter.unusedSimpArgs false
set_option maxRecDepth 100000
namespace Go.Proofs.YtjfaikgooldcbaaGreatDoor
open Go.Eng

theorem pdefer_ret {w wv : World} {M0 M : Mem} {Rs : List HO} (bx by_ bz : Nat) (x y z : Value) (hS : St w M0 wv M (.box bx [x] 24 :: .box by_ [y] 3 :: .box bz [z] 25 :: Rs)) :
  CallsD Tryz.prog 25 [.pointer (some ⟨bx, 0, none⟩), .pointer (some ⟨by_, 0, none⟩), .pointer (some ⟨bz, 0, none⟩)].toArray (.returning) wv (fun e u' w' => e = .returned (.tuple #[]) ∧ u' = (recMode (.returning)).2 ∧ St w M0 w' M (.box bx [x] 24 :: .box by_ [y] 3 :: .box bz [z] 25 :: Rs)) := by
 refine enterS (S := fun w' => St w M0 w' M (.box bx [x] 24 :: .box by_ [y] 3 :: .box bz [z] 25 :: Rs)) Tryz.func25 rfl Tryz.ntmps25 (Nat.le_of_ble_eq_true rfl) rfl rfl rfl rfl (fun a w => rfl) fun K Q hK hQ => ?_
 have hend : ∀ {L : Env} {w' : World}, St w M0 w' M (.box bx [x] 24 :: .box by_ [y] 3 :: .box bz [z] 25 :: Rs) → ∀ a, Slots a 15 L → Q .normal a w' := fun h a hs => hQ a _ hs.dfr h
 refine RL.u (.assertsNo (.t rfl) Tryz.underlying51 Tryz.zeroValue51) rfl (RL.m rfl rfl (RL.u (.ex (.t rfl) rfl) rfl (RL.u (.ex (.t rfl) rfl) rfl ?_)))
 refine RL.alloc hS Tryz.zeroValue51 rfl (fun w1 b2 hS3 => ?_)
 refine RL.st hS3 (i := 0) rfl (.t rfl) (.t rfl) Tryz.sizeOf51 rfl rfl rfl rfl rfl (fun w4 hS5 => ?_)
 refine RL.a rfl rfl ?_
 refine RL.nil fun a hs => hK a _ (CW.id ?_ a hs)
 refine CW.sr (RL.m rfl rfl (RL.nil (CW.id (CW.cond rfl (fun h => by cases h) (fun _ => ?_)))))
 replace hS5 := hS5.erase 0 rfl
 refine CW.skip (hend ?_)
 exact hS5

theorem pdefer_pan {w wv : World} {M0 M : Mem} {Rs : List HO} (ec p : Int) (bx by_ bz : Nat) (x y z : Value) (hS : St w M0 wv M (.box bx [x] 24 :: .box by_ [y] 3 :: .box bz [z] 25 :: Rs)) :
  CallsD Tryz.prog 25 [.pointer (some ⟨bx, 0, none⟩), .pointer (some ⟨by_, 0, none⟩), .pointer (some ⟨bz, 0, none⟩)].toArray (.panicking [wrongE 51 ec p]) wv (fun e u' w' => e = .returned (.tuple #[]) ∧ u' = (recMode (.panicking [wrongE 51 ec p])).2 ∧ St w M0 w' M (.box bx [.slice none 0 0] 24 :: .box by_ [i64 p] 3 :: .box bz [i64 ec] 25 :: Rs)) := by
 refine enterS (S := fun w' => St w M0 w' M (.box bx [.slice none 0 0] 24 :: .box by_ [i64 p] 3 :: .box bz [i64 ec] 25 :: Rs)) Tryz.func25 rfl Tryz.ntmps25 (Nat.le_of_ble_eq_true rfl) rfl rfl rfl rfl (fun a w => rfl) fun K Q hK hQ => ?_
 have hend : ∀ {L : Env} {w' : World}, St w M0 w' M (.box bx [.slice none 0 0] 24 :: .box by_ [i64 p] 3 :: .box bz [i64 ec] 25 :: Rs) → ∀ a, Slots a 15 L → Q .normal a w' := fun h a hs => hQ a _ hs.dfr h
 refine RL.u (.asserts (.t rfl) Tryz.underlying51) rfl (RL.m rfl rfl (RL.u (.ex (.t rfl) rfl) rfl (RL.u (.ex (.t rfl) rfl) rfl ?_)))
 refine RL.alloc hS Tryz.zeroValue51 rfl (fun w1 b2 hS3 => ?_)
 refine RL.st hS3 (i := 0) rfl (.t rfl) (.t rfl) Tryz.sizeOf51 rfl rfl rfl rfl rfl (fun w4 hS5 => ?_)
 refine RL.a rfl rfl ?_
 refine RL.nil fun a hs => hK a _ (CW.id ?_ a hs)
 refine CW.sr (RL.m rfl rfl (RL.nil (CW.id (CW.cond rfl (fun _ => ?_) (fun h => by cases h)))))
 refine CW.regionA hS5 tryz_mixed (fun w6 hS7 => (RA.three (i := 0) (j := 2) (k := 4) (by decide +kernel) ?_ ?_ ?_))
 ·refine RL.u (.fldA (q := ⟨b2, 1, none⟩) (.t rfl) (fun w => by kernel_rfl)) rfl (RL.nil (RA.next (RA.three (i := 1) (j := 2) (k := 4) (by decide +kernel) ?_ ?_ ?_)))
  ·refine RL.u (.loadB1 (v := (i64 p)) hS7 extEq (i := 0) rfl (.t rfl) Tryz.isAgg3 rfl) rfl (RL.nil (RA.next (RA.two (i := 2) (j := 4) (by decide +kernel) ?_ ?_)))
   ·refine RL.u (.fldA (q := ⟨b2, 0, none⟩) (.t rfl) (fun w => by kernel_rfl)) rfl (RL.nil (RA.next (RA.two (i := 3) (j := 4) (by decide +kernel) ?_ ?_)))
    ·refine RL.u (.loadB1 (v := (i64 ec)) hS7 extEq (i := 0) rfl (.t rfl) Tryz.isAgg25 rfl) rfl (RL.nil (RA.next (RA.one (i := 4) (by decide +kernel) ?_)))
     refine RL.st (v := (.slice none 0 0)) hS7 (i := 1) rfl (.t rfl) .c Tryz.sizeOf24 rfl rfl rfl rfl rfl (fun w8 hS9 => (RL.nil (RA.next (RA.one (i := 5) (by decide +kernel) ?_))))
     refine RL.st hS9 (i := 2) rfl (.t rfl) (.t rfl) Tryz.sizeOf3 rfl rfl rfl rfl rfl (fun w10 hS11 => (RL.nil (RA.next (RA.one (i := 6) (by decide +kernel) ?_))))
     refine RL.st hS11 (i := 3) rfl (.t rfl) (.t rfl) Tryz.sizeOf25 rfl rfl rfl rfl rfl (fun w12 hS13 => (RL.nil (RA.next (RA.nil (by decide +kernel) ?_))))
     exact hend (hS13.erase 0 rfl)
    ·refine RL.st (v := (.slice none 0 0)) hS7 (i := 1) rfl (.t rfl) .c Tryz.sizeOf24 rfl rfl rfl rfl rfl (fun w14 hS15 => (RL.nil (RA.next (RA.two (i := 3) (j := 5) (by decide +kernel) ?_ ?_))))
     ·refine RL.u (.loadB1 (v := (i64 ec)) hS15 extEq (i := 0) rfl (.t rfl) Tryz.isAgg25 rfl) rfl (RL.nil (RA.next (RA.one (i := 5) (by decide +kernel) ?_)))
      refine RL.st hS15 (i := 2) rfl (.t rfl) (.t rfl) Tryz.sizeOf3 rfl rfl rfl rfl rfl (fun w16 hS17 => (RL.nil (RA.next (RA.one (i := 6) (by decide +kernel) ?_))))
      refine RL.st hS17 (i := 3) rfl (.t rfl) (.t rfl) Tryz.sizeOf25 rfl rfl rfl rfl rfl (fun w18 hS19 => (RL.nil (RA.next (RA.nil (by decide +kernel) ?_))))
      exact hend (hS19.erase 0 rfl)
     ·refine RL.st hS15 (i := 2) rfl (.t rfl) (.t rfl) Tryz.sizeOf3 rfl rfl rfl rfl rfl (fun w20 hS21 => (RL.nil (RA.next (RA.one (i := 3) (by decide +kernel) ?_))))
      refine RL.u (.loadB1 (v := (i64 ec)) hS21 extEq (i := 0) rfl (.t rfl) Tryz.isAgg25 rfl) rfl (RL.nil (RA.next (RA.one (i := 6) (by decide +kernel) ?_)))
      refine RL.st hS21 (i := 3) rfl (.t rfl) (.t rfl) Tryz.sizeOf25 rfl rfl rfl rfl rfl (fun w22 hS23 => (RL.nil (RA.next (RA.nil (by decide +kernel) ?_))))
      exact hend (hS23.erase 0 rfl)
   ·refine RL.st (v := (.slice none 0 0)) hS7 (i := 1) rfl (.t rfl) .c Tryz.sizeOf24 rfl rfl rfl rfl rfl (fun w24 hS25 => (RL.nil (RA.next (RA.two (i := 2) (j := 5) (by decide +kernel) ?_ ?_))))
    ·refine RL.u (.fldA (q := ⟨b2, 0, none⟩) (.t rfl) (fun w => by kernel_rfl)) rfl (RL.nil (RA.next (RA.two (i := 3) (j := 5) (by decide +kernel) ?_ ?_)))
     ·refine RL.u (.loadB1 (v := (i64 ec)) hS25 extEq (i := 0) rfl (.t rfl) Tryz.isAgg25 rfl) rfl (RL.nil (RA.next (RA.one (i := 5) (by decide +kernel) ?_)))
      refine RL.st hS25 (i := 2) rfl (.t rfl) (.t rfl) Tryz.sizeOf3 rfl rfl rfl rfl rfl (fun w26 hS27 => (RL.nil (RA.next (RA.one (i := 6) (by decide +kernel) ?_))))
      refine RL.st hS27 (i := 3) rfl (.t rfl) (.t rfl) Tryz.sizeOf25 rfl rfl rfl rfl rfl (fun w28 hS29 => (RL.nil (RA.next (RA.nil (by decide +kernel) ?_))))
      exact hend (hS29.erase 0 rfl)
     ·refine RL.st hS25 (i := 2) rfl (.t rfl) (.t rfl) Tryz.sizeOf3 rfl rfl rfl rfl rfl (fun w30 hS31 => (RL.nil (RA.next (RA.one (i := 3) (by decide +kernel) ?_))))
      refine RL.u (.loadB1 (v := (i64 ec)) hS31 extEq (i := 0) rfl (.t rfl) Tryz.isAgg25 rfl) rfl (RL.nil (RA.next (RA.one (i := 6) (by decide +kernel) ?_)))
      refine RL.st hS31 (i := 3) rfl (.t rfl) (.t rfl) Tryz.sizeOf25 rfl rfl rfl rfl rfl (fun w32 hS33 => (RL.nil (RA.next (RA.nil (by decide +kernel) ?_))))
      exact hend (hS33.erase 0 rfl)
    ·refine RL.st hS25 (i := 2) rfl (.t rfl) (.t rfl) Tryz.sizeOf3 rfl rfl rfl rfl rfl (fun w34 hS35 => (RL.nil (RA.next (RA.one (i := 2) (by decide +kernel) ?_))))
     refine RL.u (.fldA (q := ⟨b2, 0, none⟩) (.t rfl) (fun w => by kernel_rfl)) rfl (RL.nil (RA.next (RA.one (i := 3) (by decide +kernel) ?_)))
     refine RL.u (.loadB1 (v := (i64 ec)) hS35 extEq (i := 0) rfl (.t rfl) Tryz.isAgg25 rfl) rfl (RL.nil (RA.next (RA.one (i := 6) (by decide +kernel) ?_)))
     refine RL.st hS35 (i := 3) rfl (.t rfl) (.t rfl) Tryz.sizeOf25 rfl rfl rfl rfl rfl (fun w36 hS37 => (RL.nil (RA.next (RA.nil (by decide +kernel) ?_))))
     exact hend (hS37.erase 0 rfl)
  ·refine RL.u (.fldA (q := ⟨b2, 0, none⟩) (.t rfl) (fun w => by kernel_rfl)) rfl (RL.nil (RA.next (RA.three (i := 1) (j := 3) (k := 4) (by decide +kernel) ?_ ?_ ?_)))
   ·refine RL.u (.loadB1 (v := (i64 p)) hS7 extEq (i := 0) rfl (.t rfl) Tryz.isAgg3 rfl) rfl (RL.nil (RA.next (RA.two (i := 3) (j := 4) (by decide +kernel) ?_ ?_)))
    ·refine RL.u (.loadB1 (v := (i64 ec)) hS7 extEq (i := 0) rfl (.t rfl) Tryz.isAgg25 rfl) rfl (RL.nil (RA.next (RA.one (i := 4) (by decide +kernel) ?_)))
     refine RL.st (v := (.slice none 0 0)) hS7 (i := 1) rfl (.t rfl) .c Tryz.sizeOf24 rfl rfl rfl rfl rfl (fun w38 hS39 => (RL.nil (RA.next (RA.one (i := 5) (by decide +kernel) ?_))))
     refine RL.st hS39 (i := 2) rfl (.t rfl) (.t rfl) Tryz.sizeOf3 rfl rfl rfl rfl rfl (fun w40 hS41 => (RL.nil (RA.next (RA.one (i := 6) (by decide +kernel) ?_))))
     refine RL.st hS41 (i := 3) rfl (.t rfl) (.t rfl) Tryz.sizeOf25 rfl rfl rfl rfl rfl (fun w42 hS43 => (RL.nil (RA.next (RA.nil (by decide +kernel) ?_))))
     exact hend (hS43.erase 0 rfl)
    ·refine RL.st (v := (.slice none 0 0)) hS7 (i := 1) rfl (.t rfl) .c Tryz.sizeOf24 rfl rfl rfl rfl rfl (fun w44 hS45 => (RL.nil (RA.next (RA.two (i := 3) (j := 5) (by decide +kernel) ?_ ?_))))
     ·refine RL.u (.loadB1 (v := (i64 ec)) hS45 extEq (i := 0) rfl (.t rfl) Tryz.isAgg25 rfl) rfl (RL.nil (RA.next (RA.one (i := 5) (by decide +kernel) ?_)))
      refine RL.st hS45 (i := 2) rfl (.t rfl) (.t rfl) Tryz.sizeOf3 rfl rfl rfl rfl rfl (fun w46 hS47 => (RL.nil (RA.next (RA.one (i := 6) (by decide +kernel) ?_))))
      refine RL.st hS47 (i := 3) rfl (.t rfl) (.t rfl) Tryz.sizeOf25 rfl rfl rfl rfl rfl (fun w48 hS49 => (RL.nil (RA.next (RA.nil (by decide +kernel) ?_))))
      exact hend (hS49.erase 0 rfl)
     ·refine RL.st hS45 (i := 2) rfl (.t rfl) (.t rfl) Tryz.sizeOf3 rfl rfl rfl rfl rfl (fun w50 hS51 => (RL.nil (RA.next (RA.one (i := 3) (by decide +kernel) ?_))))
      refine RL.u (.loadB1 (v := (i64 ec)) hS51 extEq (i := 0) rfl (.t rfl) Tryz.isAgg25 rfl) rfl (RL.nil (RA.next (RA.one (i := 6) (by decide +kernel) ?_)))
      refine RL.st hS51 (i := 3) rfl (.t rfl) (.t rfl) Tryz.sizeOf25 rfl rfl rfl rfl rfl (fun w52 hS53 => (RL.nil (RA.next (RA.nil (by decide +kernel) ?_))))
      exact hend (hS53.erase 0 rfl)
   ·refine RL.u (.loadB1 (v := (i64 ec)) hS7 extEq (i := 0) rfl (.t rfl) Tryz.isAgg25 rfl) rfl (RL.nil (RA.next (RA.two (i := 1) (j := 4) (by decide +kernel) ?_ ?_)))
    ·refine RL.u (.loadB1 (v := (i64 p)) hS7 extEq (i := 0) rfl (.t rfl) Tryz.isAgg3 rfl) rfl (RL.nil (RA.next (RA.one (i := 4) (by decide +kernel) ?_)))
     refine RL.st (v := (.slice none 0 0)) hS7 (i := 1) rfl (.t rfl) .c Tryz.sizeOf24 rfl rfl rfl rfl rfl (fun w54 hS55 => (RL.nil (RA.next (RA.one (i := 5) (by decide +kernel) ?_))))
     refine RL.st hS55 (i := 2) rfl (.t rfl) (.t rfl) Tryz.sizeOf3 rfl rfl rfl rfl rfl (fun w56 hS57 => (RL.nil (RA.next (RA.one (i := 6) (by decide +kernel) ?_))))
     refine RL.st hS57 (i := 3) rfl (.t rfl) (.t rfl) Tryz.sizeOf25 rfl rfl rfl rfl rfl (fun w58 hS59 => (RL.nil (RA.next (RA.nil (by decide +kernel) ?_))))
     exact hend (hS59.erase 0 rfl)
    ·refine RL.st (v := (.slice none 0 0)) hS7 (i := 1) rfl (.t rfl) .c Tryz.sizeOf24 rfl rfl rfl rfl rfl (fun w60 hS61 => (RL.nil (RA.next (RA.one (i := 1) (by decide +kernel) ?_))))
     refine RL.u (.loadB1 (v := (i64 p)) hS61 extEq (i := 0) rfl (.t rfl) Tryz.isAgg3 rfl) rfl (RL.nil (RA.next (RA.one (i := 5) (by decide +kernel) ?_)))
     refine RL.st hS61 (i := 2) rfl (.t rfl) (.t rfl) Tryz.sizeOf3 rfl rfl rfl rfl rfl (fun w62 hS63 => (RL.nil (RA.next (RA.one (i := 6) (by decide +kernel) ?_))))
     refine RL.st hS63 (i := 3) rfl (.t rfl) (.t rfl) Tryz.sizeOf25 rfl rfl rfl rfl rfl (fun w64 hS65 => (RL.nil (RA.next (RA.nil (by decide +kernel) ?_))))
     exact hend (hS65.erase 0 rfl)
   ·refine RL.st (v := (.slice none 0 0)) hS7 (i := 1) rfl (.t rfl) .c Tryz.sizeOf24 rfl rfl rfl rfl rfl (fun w66 hS67 => (RL.nil (RA.next (RA.two (i := 1) (j := 3) (by decide +kernel) ?_ ?_))))
    ·refine RL.u (.loadB1 (v := (i64 p)) hS67 extEq (i := 0) rfl (.t rfl) Tryz.isAgg3 rfl) rfl (RL.nil (RA.next (RA.two (i := 3) (j := 5) (by decide +kernel) ?_ ?_)))
     ·refine RL.u (.loadB1 (v := (i64 ec)) hS67 extEq (i := 0) rfl (.t rfl) Tryz.isAgg25 rfl) rfl (RL.nil (RA.next (RA.one (i := 5) (by decide +kernel) ?_)))
      refine RL.st hS67 (i := 2) rfl (.t rfl) (.t rfl) Tryz.sizeOf3 rfl rfl rfl rfl rfl (fun w68 hS69 => (RL.nil (RA.next (RA.one (i := 6) (by decide +kernel) ?_))))
      refine RL.st hS69 (i := 3) rfl (.t rfl) (.t rfl) Tryz.sizeOf25 rfl rfl rfl rfl rfl (fun w70 hS71 => (RL.nil (RA.next (RA.nil (by decide +kernel) ?_))))
      exact hend (hS71.erase 0 rfl)
     ·refine RL.st hS67 (i := 2) rfl (.t rfl) (.t rfl) Tryz.sizeOf3 rfl rfl rfl rfl rfl (fun w72 hS73 => (RL.nil (RA.next (RA.one (i := 3) (by decide +kernel) ?_))))
      refine RL.u (.loadB1 (v := (i64 ec)) hS73 extEq (i := 0) rfl (.t rfl) Tryz.isAgg25 rfl) rfl (RL.nil (RA.next (RA.one (i := 6) (by decide +kernel) ?_)))
      refine RL.st hS73 (i := 3) rfl (.t rfl) (.t rfl) Tryz.sizeOf25 rfl rfl rfl rfl rfl (fun w74 hS75 => (RL.nil (RA.next (RA.nil (by decide +kernel) ?_))))
      exact hend (hS75.erase 0 rfl)
    ·refine RL.u (.loadB1 (v := (i64 ec)) hS67 extEq (i := 0) rfl (.t rfl) Tryz.isAgg25 rfl) rfl (RL.nil (RA.next (RA.one (i := 1) (by decide +kernel) ?_)))
     refine RL.u (.loadB1 (v := (i64 p)) hS67 extEq (i := 0) rfl (.t rfl) Tryz.isAgg3 rfl) rfl (RL.nil (RA.next (RA.one (i := 5) (by decide +kernel) ?_)))
     refine RL.st hS67 (i := 2) rfl (.t rfl) (.t rfl) Tryz.sizeOf3 rfl rfl rfl rfl rfl (fun w76 hS77 => (RL.nil (RA.next (RA.one (i := 6) (by decide +kernel) ?_))))
     refine RL.st hS77 (i := 3) rfl (.t rfl) (.t rfl) Tryz.sizeOf25 rfl rfl rfl rfl rfl (fun w78 hS79 => (RL.nil (RA.next (RA.nil (by decide +kernel) ?_))))
     exact hend (hS79.erase 0 rfl)
  ·refine RL.st (v := (.slice none 0 0)) hS7 (i := 1) rfl (.t rfl) .c Tryz.sizeOf24 rfl rfl rfl rfl rfl (fun w80 hS81 => (RL.nil (RA.next (RA.two (i := 1) (j := 2) (by decide +kernel) ?_ ?_))))
   ·refine RL.u (.loadB1 (v := (i64 p)) hS81 extEq (i := 0) rfl (.t rfl) Tryz.isAgg3 rfl) rfl (RL.nil (RA.next (RA.two (i := 2) (j := 5) (by decide +kernel) ?_ ?_)))
    ·refine RL.u (.fldA (q := ⟨b2, 0, none⟩) (.t rfl) (fun w => by kernel_rfl)) rfl (RL.nil (RA.next (RA.two (i := 3) (j := 5) (by decide +kernel) ?_ ?_)))
     ·refine RL.u (.loadB1 (v := (i64 ec)) hS81 extEq (i := 0) rfl (.t rfl) Tryz.isAgg25 rfl) rfl (RL.nil (RA.next (RA.one (i := 5) (by decide +kernel) ?_)))
      refine RL.st hS81 (i := 2) rfl (.t rfl) (.t rfl) Tryz.sizeOf3 rfl rfl rfl rfl rfl (fun w82 hS83 => (RL.nil (RA.next (RA.one (i := 6) (by decide +kernel) ?_))))
      refine RL.st hS83 (i := 3) rfl (.t rfl) (.t rfl) Tryz.sizeOf25 rfl rfl rfl rfl rfl (fun w84 hS85 => (RL.nil (RA.next (RA.nil (by decide +kernel) ?_))))
      exact hend (hS85.erase 0 rfl)
     ·refine RL.st hS81 (i := 2) rfl (.t rfl) (.t rfl) Tryz.sizeOf3 rfl rfl rfl rfl rfl (fun w86 hS87 => (RL.nil (RA.next (RA.one (i := 3) (by decide +kernel) ?_))))
      refine RL.u (.loadB1 (v := (i64 ec)) hS87 extEq (i := 0) rfl (.t rfl) Tryz.isAgg25 rfl) rfl (RL.nil (RA.next (RA.one (i := 6) (by decide +kernel) ?_)))
      refine RL.st hS87 (i := 3) rfl (.t rfl) (.t rfl) Tryz.sizeOf25 rfl rfl rfl rfl rfl (fun w88 hS89 => (RL.nil (RA.next (RA.nil (by decide +kernel) ?_))))
      exact hend (hS89.erase 0 rfl)
    ·refine RL.st hS81 (i := 2) rfl (.t rfl) (.t rfl) Tryz.sizeOf3 rfl rfl rfl rfl rfl (fun w90 hS91 => (RL.nil (RA.next (RA.one (i := 2) (by decide +kernel) ?_))))
     refine RL.u (.fldA (q := ⟨b2, 0, none⟩) (.t rfl) (fun w => by kernel_rfl)) rfl (RL.nil (RA.next (RA.one (i := 3) (by decide +kernel) ?_)))
     refine RL.u (.loadB1 (v := (i64 ec)) hS91 extEq (i := 0) rfl (.t rfl) Tryz.isAgg25 rfl) rfl (RL.nil (RA.next (RA.one (i := 6) (by decide +kernel) ?_)))
     refine RL.st hS91 (i := 3) rfl (.t rfl) (.t rfl) Tryz.sizeOf25 rfl rfl rfl rfl rfl (fun w92 hS93 => (RL.nil (RA.next (RA.nil (by decide +kernel) ?_))))
     exact hend (hS93.erase 0 rfl)
   ·refine RL.u (.fldA (q := ⟨b2, 0, none⟩) (.t rfl) (fun w => by kernel_rfl)) rfl (RL.nil (RA.next (RA.two (i := 1) (j := 3) (by decide +kernel) ?_ ?_)))
    ·refine RL.u (.loadB1 (v := (i64 p)) hS81 extEq (i := 0) rfl (.t rfl) Tryz.isAgg3 rfl) rfl (RL.nil (RA.next (RA.two (i := 3) (j := 5) (by decide +kernel) ?_ ?_)))
     ·refine RL.u (.loadB1 (v := (i64 ec)) hS81 extEq (i := 0) rfl (.t rfl) Tryz.isAgg25 rfl) rfl (RL.nil (RA.next (RA.one (i := 5) (by decide +kernel) ?_)))
      refine RL.st hS81 (i := 2) rfl (.t rfl) (.t rfl) Tryz.sizeOf3 rfl rfl rfl rfl rfl (fun w94 hS95 => (RL.nil (RA.next (RA.one (i := 6) (by decide +kernel) ?_))))
      refine RL.st hS95 (i := 3) rfl (.t rfl) (.t rfl) Tryz.sizeOf25 rfl rfl rfl rfl rfl (fun w96 hS97 => (RL.nil (RA.next (RA.nil (by decide +kernel) ?_))))
      exact hend (hS97.erase 0 rfl)
     ·refine RL.st hS81 (i := 2) rfl (.t rfl) (.t rfl) Tryz.sizeOf3 rfl rfl rfl rfl rfl (fun w98 hS99 => (RL.nil (RA.next (RA.one (i := 3) (by decide +kernel) ?_))))
      refine RL.u (.loadB1 (v := (i64 ec)) hS99 extEq (i := 0) rfl (.t rfl) Tryz.isAgg25 rfl) rfl (RL.nil (RA.next (RA.one (i := 6) (by decide +kernel) ?_)))
      refine RL.st hS99 (i := 3) rfl (.t rfl) (.t rfl) Tryz.sizeOf25 rfl rfl rfl rfl rfl (fun w100 hS101 => (RL.nil (RA.next (RA.nil (by decide +kernel) ?_))))
      exact hend (hS101.erase 0 rfl)
    ·refine RL.u (.loadB1 (v := (i64 ec)) hS81 extEq (i := 0) rfl (.t rfl) Tryz.isAgg25 rfl) rfl (RL.nil (RA.next (RA.one (i := 1) (by decide +kernel) ?_)))
     refine RL.u (.loadB1 (v := (i64 p)) hS81 extEq (i := 0) rfl (.t rfl) Tryz.isAgg3 rfl) rfl (RL.nil (RA.next (RA.one (i := 5) (by decide +kernel) ?_)))
     refine RL.st hS81 (i := 2) rfl (.t rfl) (.t rfl) Tryz.sizeOf3 rfl rfl rfl rfl rfl (fun w102 hS103 => (RL.nil (RA.next (RA.one (i := 6) (by decide +kernel) ?_))))
     refine RL.st hS103 (i := 3) rfl (.t rfl) (.t rfl) Tryz.sizeOf25 rfl rfl rfl rfl rfl (fun w104 hS105 => (RL.nil (RA.next (RA.nil (by decide +kernel) ?_))))
     exact hend (hS105.erase 0 rfl)
 ·refine RL.u (.fldA (q := ⟨b2, 0, none⟩) (.t rfl) (fun w => by kernel_rfl)) rfl (RL.nil (RA.next (RA.three (i := 0) (j := 3) (k := 4) (by decide +kernel) ?_ ?_ ?_)))
  ·refine RL.u (.fldA (q := ⟨b2, 1, none⟩) (.t rfl) (fun w => by kernel_rfl)) rfl (RL.nil (RA.next (RA.three (i := 1) (j := 3) (k := 4) (by decide +kernel) ?_ ?_ ?_)))
   ·refine RL.u (.loadB1 (v := (i64 p)) hS7 extEq (i := 0) rfl (.t rfl) Tryz.isAgg3 rfl) rfl (RL.nil (RA.next (RA.two (i := 3) (j := 4) (by decide +kernel) ?_ ?_)))
    ·refine RL.u (.loadB1 (v := (i64 ec)) hS7 extEq (i := 0) rfl (.t rfl) Tryz.isAgg25 rfl) rfl (RL.nil (RA.next (RA.one (i := 4) (by decide +kernel) ?_)))
     refine RL.st (v := (.slice none 0 0)) hS7 (i := 1) rfl (.t rfl) .c Tryz.sizeOf24 rfl rfl rfl rfl rfl (fun w106 hS107 => (RL.nil (RA.next (RA.one (i := 5) (by decide +kernel) ?_))))
     refine RL.st hS107 (i := 2) rfl (.t rfl) (.t rfl) Tryz.sizeOf3 rfl rfl rfl rfl rfl (fun w108 hS109 => (RL.nil (RA.next (RA.one (i := 6) (by decide +kernel) ?_))))
     refine RL.st hS109 (i := 3) rfl (.t rfl) (.t rfl) Tryz.sizeOf25 rfl rfl rfl rfl rfl (fun w110 hS111 => (RL.nil (RA.next (RA.nil (by decide +kernel) ?_))))
     exact hend (hS111.erase 0 rfl)
    ·refine RL.st (v := (.slice none 0 0)) hS7 (i := 1) rfl (.t rfl) .c Tryz.sizeOf24 rfl rfl rfl rfl rfl (fun w112 hS113 => (RL.nil (RA.next (RA.two (i := 3) (j := 5) (by decide +kernel) ?_ ?_))))
     ·refine RL.u (.loadB1 (v := (i64 ec)) hS113 extEq (i := 0) rfl (.t rfl) Tryz.isAgg25 rfl) rfl (RL.nil (RA.next (RA.one (i := 5) (by decide +kernel) ?_)))
      refine RL.st hS113 (i := 2) rfl (.t rfl) (.t rfl) Tryz.sizeOf3 rfl rfl rfl rfl rfl (fun w114 hS115 => (RL.nil (RA.next (RA.one (i := 6) (by decide +kernel) ?_))))
      refine RL.st hS115 (i := 3) rfl (.t rfl) (.t rfl) Tryz.sizeOf25 rfl rfl rfl rfl rfl (fun w116 hS117 => (RL.nil (RA.next (RA.nil (by decide +kernel) ?_))))
      exact hend (hS117.erase 0 rfl)
     ·refine RL.st hS113 (i := 2) rfl (.t rfl) (.t rfl) Tryz.sizeOf3 rfl rfl rfl rfl rfl (fun w118 hS119 => (RL.nil (RA.next (RA.one (i := 3) (by decide +kernel) ?_))))
      refine RL.u (.loadB1 (v := (i64 ec)) hS119 extEq (i := 0) rfl (.t rfl) Tryz.isAgg25 rfl) rfl (RL.nil (RA.next (RA.one (i := 6) (by decide +kernel) ?_)))
      refine RL.st hS119 (i := 3) rfl (.t rfl) (.t rfl) Tryz.sizeOf25 rfl rfl rfl rfl rfl (fun w120 hS121 => (RL.nil (RA.next (RA.nil (by decide +kernel) ?_))))
      exact hend (hS121.erase 0 rfl)
   ·refine RL.u (.loadB1 (v := (i64 ec)) hS7 extEq (i := 0) rfl (.t rfl) Tryz.isAgg25 rfl) rfl (RL.nil (RA.next (RA.two (i := 1) (j := 4) (by decide +kernel) ?_ ?_)))
    ·refine RL.u (.loadB1 (v := (i64 p)) hS7 extEq (i := 0) rfl (.t rfl) Tryz.isAgg3 rfl) rfl (RL.nil (RA.next (RA.one (i := 4) (by decide +kernel) ?_)))
     refine RL.st (v := (.slice none 0 0)) hS7 (i := 1) rfl (.t rfl) .c Tryz.sizeOf24 rfl rfl rfl rfl rfl (fun w122 hS123 => (RL.nil (RA.next (RA.one (i := 5) (by decide +kernel) ?_))))
     refine RL.st hS123 (i := 2) rfl (.t rfl) (.t rfl) Tryz.sizeOf3 rfl rfl rfl rfl rfl (fun w124 hS125 => (RL.nil (RA.next (RA.one (i := 6) (by decide +kernel) ?_))))
     refine RL.st hS125 (i := 3) rfl (.t rfl) (.t rfl) Tryz.sizeOf25 rfl rfl rfl rfl rfl (fun w126 hS127 => (RL.nil (RA.next (RA.nil (by decide +kernel) ?_))))
     exact hend (hS127.erase 0 rfl)
    ·refine RL.st (v := (.slice none 0 0)) hS7 (i := 1) rfl (.t rfl) .c Tryz.sizeOf24 rfl rfl rfl rfl rfl (fun w128 hS129 => (RL.nil (RA.next (RA.one (i := 1) (by decide +kernel) ?_))))
     refine RL.u (.loadB1 (v := (i64 p)) hS129 extEq (i := 0) rfl (.t rfl) Tryz.isAgg3 rfl) rfl (RL.nil (RA.next (RA.one (i := 5) (by decide +kernel) ?_)))
     refine RL.st hS129 (i := 2) rfl (.t rfl) (.t rfl) Tryz.sizeOf3 rfl rfl rfl rfl rfl (fun w130 hS131 => (RL.nil (RA.next (RA.one (i := 6) (by decide +kernel) ?_))))
     refine RL.st hS131 (i := 3) rfl (.t rfl) (.t rfl) Tryz.sizeOf25 rfl rfl rfl rfl rfl (fun w132 hS133 => (RL.nil (RA.next (RA.nil (by decide +kernel) ?_))))
     exact hend (hS133.erase 0 rfl)
   ·refine RL.st (v := (.slice none 0 0)) hS7 (i := 1) rfl (.t rfl) .c Tryz.sizeOf24 rfl rfl rfl rfl rfl (fun w134 hS135 => (RL.nil (RA.next (RA.two (i := 1) (j := 3) (by decide +kernel) ?_ ?_))))
    ·refine RL.u (.loadB1 (v := (i64 p)) hS135 extEq (i := 0) rfl (.t rfl) Tryz.isAgg3 rfl) rfl (RL.nil (RA.next (RA.two (i := 3) (j := 5) (by decide +kernel) ?_ ?_)))
     ·refine RL.u (.loadB1 (v := (i64 ec)) hS135 extEq (i := 0) rfl (.t rfl) Tryz.isAgg25 rfl) rfl (RL.nil (RA.next (RA.one (i := 5) (by decide +kernel) ?_)))
      refine RL.st hS135 (i := 2) rfl (.t rfl) (.t rfl) Tryz.sizeOf3 rfl rfl rfl rfl rfl (fun w136 hS137 => (RL.nil (RA.next (RA.one (i := 6) (by decide +kernel) ?_))))
      refine RL.st hS137 (i := 3) rfl (.t rfl) (.t rfl) Tryz.sizeOf25 rfl rfl rfl rfl rfl (fun w138 hS139 => (RL.nil (RA.next (RA.nil (by decide +kernel) ?_))))
      exact hend (hS139.erase 0 rfl)
     ·refine RL.st hS135 (i := 2) rfl (.t rfl) (.t rfl) Tryz.sizeOf3 rfl rfl rfl rfl rfl (fun w140 hS141 => (RL.nil (RA.next (RA.one (i := 3) (by decide +kernel) ?_))))
      refine RL.u (.loadB1 (v := (i64 ec)) hS141 extEq (i := 0) rfl (.t rfl) Tryz.isAgg25 rfl) rfl (RL.nil (RA.next (RA.one (i := 6) (by decide +kernel) ?_)))
      refine RL.st hS141 (i := 3) rfl (.t rfl) (.t rfl) Tryz.sizeOf25 rfl rfl rfl rfl rfl (fun w142 hS143 => (RL.nil (RA.next (RA.nil (by decide +kernel) ?_))))
      exact hend (hS143.erase 0 rfl)
    ·refine RL.u (.loadB1 (v := (i64 ec)) hS135 extEq (i := 0) rfl (.t rfl) Tryz.isAgg25 rfl) rfl (RL.nil (RA.next (RA.one (i := 1) (by decide +kernel) ?_)))
     refine RL.u (.loadB1 (v := (i64 p)) hS135 extEq (i := 0) rfl (.t rfl) Tryz.isAgg3 rfl) rfl (RL.nil (RA.next (RA.one (i := 5) (by decide +kernel) ?_)))
     refine RL.st hS135 (i := 2) rfl (.t rfl) (.t rfl) Tryz.sizeOf3 rfl rfl rfl rfl rfl (fun w144 hS145 => (RL.nil (RA.next (RA.one (i := 6) (by decide +kernel) ?_))))
     refine RL.st hS145 (i := 3) rfl (.t rfl) (.t rfl) Tryz.sizeOf25 rfl rfl rfl rfl rfl (fun w146 hS147 => (RL.nil (RA.next (RA.nil (by decide +kernel) ?_))))
     exact hend (hS147.erase 0 rfl)
  ·refine RL.u (.loadB1 (v := (i64 ec)) hS7 extEq (i := 0) rfl (.t rfl) Tryz.isAgg25 rfl) rfl (RL.nil (RA.next (RA.two (i := 0) (j := 4) (by decide +kernel) ?_ ?_)))
   ·refine RL.u (.fldA (q := ⟨b2, 1, none⟩) (.t rfl) (fun w => by kernel_rfl)) rfl (RL.nil (RA.next (RA.two (i := 1) (j := 4) (by decide +kernel) ?_ ?_)))
    ·refine RL.u (.loadB1 (v := (i64 p)) hS7 extEq (i := 0) rfl (.t rfl) Tryz.isAgg3 rfl) rfl (RL.nil (RA.next (RA.one (i := 4) (by decide +kernel) ?_)))
     refine RL.st (v := (.slice none 0 0)) hS7 (i := 1) rfl (.t rfl) .c Tryz.sizeOf24 rfl rfl rfl rfl rfl (fun w148 hS149 => (RL.nil (RA.next (RA.one (i := 5) (by decide +kernel) ?_))))
     refine RL.st hS149 (i := 2) rfl (.t rfl) (.t rfl) Tryz.sizeOf3 rfl rfl rfl rfl rfl (fun w150 hS151 => (RL.nil (RA.next (RA.one (i := 6) (by decide +kernel) ?_))))
     refine RL.st hS151 (i := 3) rfl (.t rfl) (.t rfl) Tryz.sizeOf25 rfl rfl rfl rfl rfl (fun w152 hS153 => (RL.nil (RA.next (RA.nil (by decide +kernel) ?_))))
     exact hend (hS153.erase 0 rfl)
    ·refine RL.st (v := (.slice none 0 0)) hS7 (i := 1) rfl (.t rfl) .c Tryz.sizeOf24 rfl rfl rfl rfl rfl (fun w154 hS155 => (RL.nil (RA.next (RA.one (i := 1) (by decide +kernel) ?_))))
     refine RL.u (.loadB1 (v := (i64 p)) hS155 extEq (i := 0) rfl (.t rfl) Tryz.isAgg3 rfl) rfl (RL.nil (RA.next (RA.one (i := 5) (by decide +kernel) ?_)))
     refine RL.st hS155 (i := 2) rfl (.t rfl) (.t rfl) Tryz.sizeOf3 rfl rfl rfl rfl rfl (fun w156 hS157 => (RL.nil (RA.next (RA.one (i := 6) (by decide +kernel) ?_))))
     refine RL.st hS157 (i := 3) rfl (.t rfl) (.t rfl) Tryz.sizeOf25 rfl rfl rfl rfl rfl (fun w158 hS159 => (RL.nil (RA.next (RA.nil (by decide +kernel) ?_))))
     exact hend (hS159.erase 0 rfl)
   ·refine RL.st (v := (.slice none 0 0)) hS7 (i := 1) rfl (.t rfl) .c Tryz.sizeOf24 rfl rfl rfl rfl rfl (fun w160 hS161 => (RL.nil (RA.next (RA.one (i := 0) (by decide +kernel) ?_))))
    refine RL.u (.fldA (q := ⟨b2, 1, none⟩) (.t rfl) (fun w => by kernel_rfl)) rfl (RL.nil (RA.next (RA.one (i := 1) (by decide +kernel) ?_)))
    refine RL.u (.loadB1 (v := (i64 p)) hS161 extEq (i := 0) rfl (.t rfl) Tryz.isAgg3 rfl) rfl (RL.nil (RA.next (RA.one (i := 5) (by decide +kernel) ?_)))
    refine RL.st hS161 (i := 2) rfl (.t rfl) (.t rfl) Tryz.sizeOf3 rfl rfl rfl rfl rfl (fun w162 hS163 => (RL.nil (RA.next (RA.one (i := 6) (by decide +kernel) ?_))))
    refine RL.st hS163 (i := 3) rfl (.t rfl) (.t rfl) Tryz.sizeOf25 rfl rfl rfl rfl rfl (fun w164 hS165 => (RL.nil (RA.next (RA.nil (by decide +kernel) ?_))))
    exact hend (hS165.erase 0 rfl)
  ·refine RL.st (v := (.slice none 0 0)) hS7 (i := 1) rfl (.t rfl) .c Tryz.sizeOf24 rfl rfl rfl rfl rfl (fun w166 hS167 => (RL.nil (RA.next (RA.two (i := 0) (j := 3) (by decide +kernel) ?_ ?_))))
   ·refine RL.u (.fldA (q := ⟨b2, 1, none⟩) (.t rfl) (fun w => by kernel_rfl)) rfl (RL.nil (RA.next (RA.two (i := 1) (j := 3) (by decide +kernel) ?_ ?_)))
    ·refine RL.u (.loadB1 (v := (i64 p)) hS167 extEq (i := 0) rfl (.t rfl) Tryz.isAgg3 rfl) rfl (RL.nil (RA.next (RA.two (i := 3) (j := 5) (by decide +kernel) ?_ ?_)))
     ·refine RL.u (.loadB1 (v := (i64 ec)) hS167 extEq (i := 0) rfl (.t rfl) Tryz.isAgg25 rfl) rfl (RL.nil (RA.next (RA.one (i := 5) (by decide +kernel) ?_)))
      refine RL.st hS167 (i := 2) rfl (.t rfl) (.t rfl) Tryz.sizeOf3 rfl rfl rfl rfl rfl (fun w168 hS169 => (RL.nil (RA.next (RA.one (i := 6) (by decide +kernel) ?_))))
      refine RL.st hS169 (i := 3) rfl (.t rfl) (.t rfl) Tryz.sizeOf25 rfl rfl rfl rfl rfl (fun w170 hS171 => (RL.nil (RA.next (RA.nil (by decide +kernel) ?_))))
      exact hend (hS171.erase 0 rfl)
     ·refine RL.st hS167 (i := 2) rfl (.t rfl) (.t rfl) Tryz.sizeOf3 rfl rfl rfl rfl rfl (fun w172 hS173 => (RL.nil (RA.next (RA.one (i := 3) (by decide +kernel) ?_))))
      refine RL.u (.loadB1 (v := (i64 ec)) hS173 extEq (i := 0) rfl (.t rfl) Tryz.isAgg25 rfl) rfl (RL.nil (RA.next (RA.one (i := 6) (by decide +kernel) ?_)))
      refine RL.st hS173 (i := 3) rfl (.t rfl) (.t rfl) Tryz.sizeOf25 rfl rfl rfl rfl rfl (fun w174 hS175 => (RL.nil (RA.next (RA.nil (by decide +kernel) ?_))))
      exact hend (hS175.erase 0 rfl)
    ·refine RL.u (.loadB1 (v := (i64 ec)) hS167 extEq (i := 0) rfl (.t rfl) Tryz.isAgg25 rfl) rfl (RL.nil (RA.next (RA.one (i := 1) (by decide +kernel) ?_)))
     refine RL.u (.loadB1 (v := (i64 p)) hS167 extEq (i := 0) rfl (.t rfl) Tryz.isAgg3 rfl) rfl (RL.nil (RA.next (RA.one (i := 5) (by decide +kernel) ?_)))
     refine RL.st hS167 (i := 2) rfl (.t rfl) (.t rfl) Tryz.sizeOf3 rfl rfl rfl rfl rfl (fun w176 hS177 => (RL.nil (RA.next (RA.one (i := 6) (by decide +kernel) ?_))))
     refine RL.st hS177 (i := 3) rfl (.t rfl) (.t rfl) Tryz.sizeOf25 rfl rfl rfl rfl rfl (fun w178 hS179 => (RL.nil (RA.next (RA.nil (by decide +kernel) ?_))))
     exact hend (hS179.erase 0 rfl)
   ·refine RL.u (.loadB1 (v := (i64 ec)) hS167 extEq (i := 0) rfl (.t rfl) Tryz.isAgg25 rfl) rfl (RL.nil (RA.next (RA.one (i := 0) (by decide +kernel) ?_)))
    refine RL.u (.fldA (q := ⟨b2, 1, none⟩) (.t rfl) (fun w => by kernel_rfl)) rfl (RL.nil (RA.next (RA.one (i := 1) (by decide +kernel) ?_)))
    refine RL.u (.loadB1 (v := (i64 p)) hS167 extEq (i := 0) rfl (.t rfl) Tryz.isAgg3 rfl) rfl (RL.nil (RA.next (RA.one (i := 5) (by decide +kernel) ?_)))
    refine RL.st hS167 (i := 2) rfl (.t rfl) (.t rfl) Tryz.sizeOf3 rfl rfl rfl rfl rfl (fun w180 hS181 => (RL.nil (RA.next (RA.one (i := 6) (by decide +kernel) ?_))))
    refine RL.st hS181 (i := 3) rfl (.t rfl) (.t rfl) Tryz.sizeOf25 rfl rfl rfl rfl rfl (fun w182 hS183 => (RL.nil (RA.next (RA.nil (by decide +kernel) ?_))))
    exact hend (hS183.erase 0 rfl)
 ·refine RL.st (v := (.slice none 0 0)) hS7 (i := 1) rfl (.t rfl) .c Tryz.sizeOf24 rfl rfl rfl rfl rfl (fun w184 hS185 => (RL.nil (RA.next (RA.two (i := 0) (j := 2) (by decide +kernel) ?_ ?_))))
  ·refine RL.u (.fldA (q := ⟨b2, 1, none⟩) (.t rfl) (fun w => by kernel_rfl)) rfl (RL.nil (RA.next (RA.two (i := 1) (j := 2) (by decide +kernel) ?_ ?_)))
   ·refine RL.u (.loadB1 (v := (i64 p)) hS185 extEq (i := 0) rfl (.t rfl) Tryz.isAgg3 rfl) rfl (RL.nil (RA.next (RA.two (i := 2) (j := 5) (by decide +kernel) ?_ ?_)))
    ·refine RL.u (.fldA (q := ⟨b2, 0, none⟩) (.t rfl) (fun w => by kernel_rfl)) rfl (RL.nil (RA.next (RA.two (i := 3) (j := 5) (by decide +kernel) ?_ ?_)))
     ·refine RL.u (.loadB1 (v := (i64 ec)) hS185 extEq (i := 0) rfl (.t rfl) Tryz.isAgg25 rfl) rfl (RL.nil (RA.next (RA.one (i := 5) (by decide +kernel) ?_)))
      refine RL.st hS185 (i := 2) rfl (.t rfl) (.t rfl) Tryz.sizeOf3 rfl rfl rfl rfl rfl (fun w186 hS187 => (RL.nil (RA.next (RA.one (i := 6) (by decide +kernel) ?_))))
      refine RL.st hS187 (i := 3) rfl (.t rfl) (.t rfl) Tryz.sizeOf25 rfl rfl rfl rfl rfl (fun w188 hS189 => (RL.nil (RA.next (RA.nil (by decide +kernel) ?_))))
      exact hend (hS189.erase 0 rfl)
     ·refine RL.st hS185 (i := 2) rfl (.t rfl) (.t rfl) Tryz.sizeOf3 rfl rfl rfl rfl rfl (fun w190 hS191 => (RL.nil (RA.next (RA.one (i := 3) (by decide +kernel) ?_))))
      refine RL.u (.loadB1 (v := (i64 ec)) hS191 extEq (i := 0) rfl (.t rfl) Tryz.isAgg25 rfl) rfl (RL.nil (RA.next (RA.one (i := 6) (by decide +kernel) ?_)))
      refine RL.st hS191 (i := 3) rfl (.t rfl) (.t rfl) Tryz.sizeOf25 rfl rfl rfl rfl rfl (fun w192 hS193 => (RL.nil (RA.next (RA.nil (by decide +kernel) ?_))))
      exact hend (hS193.erase 0 rfl)
    ·refine RL.st hS185 (i := 2) rfl (.t rfl) (.t rfl) Tryz.sizeOf3 rfl rfl rfl rfl rfl (fun w194 hS195 => (RL.nil (RA.next (RA.one (i := 2) (by decide +kernel) ?_))))
     refine RL.u (.fldA (q := ⟨b2, 0, none⟩) (.t rfl) (fun w => by kernel_rfl)) rfl (RL.nil (RA.next (RA.one (i := 3) (by decide +kernel) ?_)))
     refine RL.u (.loadB1 (v := (i64 ec)) hS195 extEq (i := 0) rfl (.t rfl) Tryz.isAgg25 rfl) rfl (RL.nil (RA.next (RA.one (i := 6) (by decide +kernel) ?_)))
     refine RL.st hS195 (i := 3) rfl (.t rfl) (.t rfl) Tryz.sizeOf25 rfl rfl rfl rfl rfl (fun w196 hS197 => (RL.nil (RA.next (RA.nil (by decide +kernel) ?_))))
     exact hend (hS197.erase 0 rfl)
   ·refine RL.u (.fldA (q := ⟨b2, 0, none⟩) (.t rfl) (fun w => by kernel_rfl)) rfl (RL.nil (RA.next (RA.two (i := 1) (j := 3) (by decide +kernel) ?_ ?_)))
    ·refine RL.u (.loadB1 (v := (i64 p)) hS185 extEq (i := 0) rfl (.t rfl) Tryz.isAgg3 rfl) rfl (RL.nil (RA.next (RA.two (i := 3) (j := 5) (by decide +kernel) ?_ ?_)))
     ·refine RL.u (.loadB1 (v := (i64 ec)) hS185 extEq (i := 0) rfl (.t rfl) Tryz.isAgg25 rfl) rfl (RL.nil (RA.next (RA.one (i := 5) (by decide +kernel) ?_)))
      refine RL.st hS185 (i := 2) rfl (.t rfl) (.t rfl) Tryz.sizeOf3 rfl rfl rfl rfl rfl (fun w198 hS199 => (RL.nil (RA.next (RA.one (i := 6) (by decide +kernel) ?_))))
      refine RL.st hS199 (i := 3) rfl (.t rfl) (.t rfl) Tryz.sizeOf25 rfl rfl rfl rfl rfl (fun w200 hS201 => (RL.nil (RA.next (RA.nil (by decide +kernel) ?_))))
      exact hend (hS201.erase 0 rfl)
     ·refine RL.st hS185 (i := 2) rfl (.t rfl) (.t rfl) Tryz.sizeOf3 rfl rfl rfl rfl rfl (fun w202 hS203 => (RL.nil (RA.next (RA.one (i := 3) (by decide +kernel) ?_))))
      refine RL.u (.loadB1 (v := (i64 ec)) hS203 extEq (i := 0) rfl (.t rfl) Tryz.isAgg25 rfl) rfl (RL.nil (RA.next (RA.one (i := 6) (by decide +kernel) ?_)))
      refine RL.st hS203 (i := 3) rfl (.t rfl) (.t rfl) Tryz.sizeOf25 rfl rfl rfl rfl rfl (fun w204 hS205 => (RL.nil (RA.next (RA.nil (by decide +kernel) ?_))))
      exact hend (hS205.erase 0 rfl)
    ·refine RL.u (.loadB1 (v := (i64 ec)) hS185 extEq (i := 0) rfl (.t rfl) Tryz.isAgg25 rfl) rfl (RL.nil (RA.next (RA.one (i := 1) (by decide +kernel) ?_)))
     refine RL.u (.loadB1 (v := (i64 p)) hS185 extEq (i := 0) rfl (.t rfl) Tryz.isAgg3 rfl) rfl (RL.nil (RA.next (RA.one (i := 5) (by decide +kernel) ?_)))
     refine RL.st hS185 (i := 2) rfl (.t rfl) (.t rfl) Tryz.sizeOf3 rfl rfl rfl rfl rfl (fun w206 hS207 => (RL.nil (RA.next (RA.one (i := 6) (by decide +kernel) ?_))))
     refine RL.st hS207 (i := 3) rfl (.t rfl) (.t rfl) Tryz.sizeOf25 rfl rfl rfl rfl rfl (fun w208 hS209 => (RL.nil (RA.next (RA.nil (by decide +kernel) ?_))))
     exact hend (hS209.erase 0 rfl)
  ·refine RL.u (.fldA (q := ⟨b2, 0, none⟩) (.t rfl) (fun w => by kernel_rfl)) rfl (RL.nil (RA.next (RA.two (i := 0) (j := 3) (by decide +kernel) ?_ ?_)))
   ·refine RL.u (.fldA (q := ⟨b2, 1, none⟩) (.t rfl) (fun w => by kernel_rfl)) rfl (RL.nil (RA.next (RA.two (i := 1) (j := 3) (by decide +kernel) ?_ ?_)))
    ·refine RL.u (.loadB1 (v := (i64 p)) hS185 extEq (i := 0) rfl (.t rfl) Tryz.isAgg3 rfl) rfl (RL.nil (RA.next (RA.two (i := 3) (j := 5) (by decide +kernel) ?_ ?_)))
     ·refine RL.u (.loadB1 (v := (i64 ec)) hS185 extEq (i := 0) rfl (.t rfl) Tryz.isAgg25 rfl) rfl (RL.nil (RA.next (RA.one (i := 5) (by decide +kernel) ?_)))
      refine RL.st hS185 (i := 2) rfl (.t rfl) (.t rfl) Tryz.sizeOf3 rfl rfl rfl rfl rfl (fun w210 hS211 => (RL.nil (RA.next (RA.one (i := 6) (by decide +kernel) ?_))))
      refine RL.st hS211 (i := 3) rfl (.t rfl) (.t rfl) Tryz.sizeOf25 rfl rfl rfl rfl rfl (fun w212 hS213 => (RL.nil (RA.next (RA.nil (by decide +kernel) ?_))))
      exact hend (hS213.erase 0 rfl)
     ·refine RL.st hS185 (i := 2) rfl (.t rfl) (.t rfl) Tryz.sizeOf3 rfl rfl rfl rfl rfl (fun w214 hS215 => (RL.nil (RA.next (RA.one (i := 3) (by decide +kernel) ?_))))
      refine RL.u (.loadB1 (v := (i64 ec)) hS215 extEq (i := 0) rfl (.t rfl) Tryz.isAgg25 rfl) rfl (RL.nil (RA.next (RA.one (i := 6) (by decide +kernel) ?_)))
      refine RL.st hS215 (i := 3) rfl (.t rfl) (.t rfl) Tryz.sizeOf25 rfl rfl rfl rfl rfl (fun w216 hS217 => (RL.nil (RA.next (RA.nil (by decide +kernel) ?_))))
      exact hend (hS217.erase 0 rfl)
    ·refine RL.u (.loadB1 (v := (i64 ec)) hS185 extEq (i := 0) rfl (.t rfl) Tryz.isAgg25 rfl) rfl (RL.nil (RA.next (RA.one (i := 1) (by decide +kernel) ?_)))
     refine RL.u (.loadB1 (v := (i64 p)) hS185 extEq (i := 0) rfl (.t rfl) Tryz.isAgg3 rfl) rfl (RL.nil (RA.next (RA.one (i := 5) (by decide +kernel) ?_)))
     refine RL.st hS185 (i := 2) rfl (.t rfl) (.t rfl) Tryz.sizeOf3 rfl rfl rfl rfl rfl (fun w218 hS219 => (RL.nil (RA.next (RA.one (i := 6) (by decide +kernel) ?_))))
     refine RL.st hS219 (i := 3) rfl (.t rfl) (.t rfl) Tryz.sizeOf25 rfl rfl rfl rfl rfl (fun w220 hS221 => (RL.nil (RA.next (RA.nil (by decide +kernel) ?_))))
     exact hend (hS221.erase 0 rfl)
   ·refine RL.u (.loadB1 (v := (i64 ec)) hS185 extEq (i := 0) rfl (.t rfl) Tryz.isAgg25 rfl) rfl (RL.nil (RA.next (RA.one (i := 0) (by decide +kernel) ?_)))
    refine RL.u (.fldA (q := ⟨b2, 1, none⟩) (.t rfl) (fun w => by kernel_rfl)) rfl (RL.nil (RA.next (RA.one (i := 1) (by decide +kernel) ?_)))
    refine RL.u (.loadB1 (v := (i64 p)) hS185 extEq (i := 0) rfl (.t rfl) Tryz.isAgg3 rfl) rfl (RL.nil (RA.next (RA.one (i := 5) (by decide +kernel) ?_)))
    refine RL.st hS185 (i := 2) rfl (.t rfl) (.t rfl) Tryz.sizeOf3 rfl rfl rfl rfl rfl (fun w222 hS223 => (RL.nil (RA.next (RA.one (i := 6) (by decide +kernel) ?_))))
    refine RL.st hS223 (i := 3) rfl (.t rfl) (.t rfl) Tryz.sizeOf25 rfl rfl rfl rfl rfl (fun w224 hS225 => (RL.nil (RA.next (RA.nil (by decide +kernel) ?_))))
    exact hend (hS225.erase 0 rfl)

end Go.Proofs.YtjfaikgooldcbaaGreatDoor
set_option maxRecDepth 100000
namespace Go.Proofs.YtjfaikgooldcbaaGreatDoor
open Go.Eng

theorem val_any {w wv : World} {M0 M : Mem} {Rs : List HO} (s : Str) (pb : Nat) (hg : Gl w) (hb : len s ≤ 1099511627776) (f : Nat) (i d : Int) (hS : St w M0 wv M (.box pb [str s, i64 (i)] 55 :: Rs)) (h0 : 0 ≤ i) (h1 : i ≤ len s) (h2 : 0 ≤ d) (h3 : d ≤ 1000) (hf : 2 * (len s - i) + 1 ≤ f) :
    Calls Tryz.prog 27 [.pointer (some ⟨pb, 0, none⟩), i64 d].toArray wv (PPost w M0 M Rs 51 (fun x j v M' w' => ∃ a c, v = .slice a x.length c ∧ i + 1 ≤ j ∧ j ≤ len s ∧ len x ≤ j - i ∧ Sl M' 6 x.length (.slice a x.length c) (x.flatMap Nd.cells) ∧ St w M0 w' M' (.box pb [str s, i64 (j)] 55 :: Rs)) (valT f s i d)) := val_all s pb hg hb f i d hS h0 h1 h2 h3 hf
/-- What Parse gives. -/
def ParseP (w : World) (M0 M : Mem) (Rs : List HO) (r : Vl × Int × Int) (e : Ending) (w' : World) : Prop := ∃ u, e = .returned u ∧ ∃ a c M', u = .tuple #[.slice a r.1.length c, i64 r.2.1, i64 r.2.2] ∧ Sl M' 6 r.1.length (.slice a r.1.length c) (r.1.flatMap Nd.cells) ∧ St w M0 w' M' Rs ∧ M.le M'
abbrev dfrP (bx by_ bz : Nat) : List Deferred := [{ target := .fn (.func 25) [.pointer (some ⟨bx, 0, none⟩), .pointer (some ⟨by_, 0, none⟩), .pointer (some ⟨bz, 0, none⟩)].toArray, args := #[] }]
theorem parse_er {w wv : World} {M0 M M' : Mem} {Rs : List HO} {s : Str} {ec p : Int} {bx by_ bz : Nat} {x y z : Value} {L : Env} (hS : St w M0 wv M' (.box bx [x] 24 :: .box by_ [y] 3 :: .box bz [z] 25 :: Rs)) (hr : parseT s = ([], p, ec)) (hle : M.le M')
    (h2 : Eng.look L 2 = some (true, .pointer (some ⟨bx, 0, none⟩))) (h3 : Eng.look L 3 = some (true, .pointer (some ⟨by_, 0, none⟩))) (h4 : Eng.look L 4 = some (true, .pointer (some ⟨bz, 0, none⟩))) :
    ∀ a, Slots a 30 L → Leaves Tryz.prog Tryz.f11 a.tmps (ParseP w M0 M Rs (parseT s)) (dfrP bx by_ bz) (.panicking [wrongE 51 ec p]) wv := fun a hs =>
  leaves_one Tryz.call25 (fun h => by cases h) rfl (pdefer_pan ec p bx by_ bz x y z hS) fun w' hS' =>
    ⟨_, res3 rfl hs (.box1 hS' (i := 0) rfl h2 Tryz.isAgg24) (.box1 hS' (i := 1) rfl h3 Tryz.isAgg3) (.box1 hS' (i := 2) rfl h4 Tryz.isAgg25), by
      rw [hr]
      exact ⟨_, rfl, none, 0, M', rfl, ⟨rfl, none, 0, rfl, Nat.le_refl _, Nat.zero_le _, fun h => absurd h (Nat.lt_irrefl 0)⟩, ((hS'.erase 0 rfl).erase 0 rfl).erase 0 rfl, hle⟩⟩
theorem parse_ok {w wv : World} {M0 M M' : Mem} {Rs : List HO} {s : Str} {v : Vl} {bx by_ bz : Nat} {p : Option Addr} {c : Nat} {L : Env} (hS : St w M0 wv M' (.box bx [.slice p v.length c] 24 :: .box by_ [i64 0] 3 :: .box bz [i64 0] 25 :: Rs)) (hr : parseT s = (v, 0, 0)) (hsl : Sl M' 6 v.length (.slice p v.length c) (v.flatMap Nd.cells)) (hle : M.le M')
    (h2 : Eng.look L 2 = some (true, .pointer (some ⟨bx, 0, none⟩))) (h3 : Eng.look L 3 = some (true, .pointer (some ⟨by_, 0, none⟩))) (h4 : Eng.look L 4 = some (true, .pointer (some ⟨bz, 0, none⟩))) :
    ∀ a, Slots a 30 L → Leaves Tryz.prog Tryz.f11 a.tmps (ParseP w M0 M Rs (parseT s)) (dfrP bx by_ bz) .returning wv := fun a hs =>
  leaves_one Tryz.call25 (fun h => by cases h) rfl (pdefer_ret bx by_ bz _ _ _ hS) fun w' hS' =>
    ⟨_, res3 rfl hs (.box1 hS' (i := 0) rfl h2 Tryz.isAgg24) (.box1 hS' (i := 1) rfl h3 Tryz.isAgg3) (.box1 hS' (i := 2) rfl h4 Tryz.isAgg25), by
      rw [hr]
      exact ⟨_, rfl, p, c, M', rfl, hsl, ((hS'.erase 0 rfl).erase 0 rfl).erase 0 rfl, hle⟩⟩
theorem parse_c {w wv : World} {M0 M : Mem} {Rs : List HO} (s : Str) (hS : St w M0 wv M Rs) (hg : Gl w) (hb : len s ≤ 1099511627776) :
  Calls Tryz.prog 11 [(str s)].toArray wv fun e w' => ParseP w M0 M Rs (parseT s) e w' := by
 refine CWD.enter Tryz.func11 rfl Tryz.ntmps11 (Nat.le_of_ble_eq_true rfl) fun Q hE => ?_
 have hlen : len s = (s.length : Int) := rfl
 have hln := len_nonneg s
 refine CW.weaken [0] (L' := [Y 0 (str s)]) ?_ rfl
 refine CW.sr ?_
 refine RL.alloc hS Tryz.zeroValue24 rfl (fun w1 b2 hS3 => ?_)
 refine RL.alloc hS3 Tryz.zeroValue3 rfl (fun w4 b5 hS6 => ?_)
 refine RL.alloc hS6 Tryz.zeroValue25 rfl (fun w7 b8 hS9 => (RL.nil (CW.id ?_)))
 refine CW.sr (RL.u (.makeFunc .nil (.cons (.t rfl) (.cons (.t rfl) (.cons (.t rfl) .nil)))) rfl ?_)
 refine RL.defer (.t rfl) ?_
 refine RL.nil (CWD.id (CWD.sr (RL.m rfl rfl (RL.u (.build (vs := [(0, (str s))]) (v := (.agg #[(str s), (i64 0)])) (.cons (.t rfl) .nil) (fun w => by kernel_rfl)) rfl ?_))))
 refine RL.box (v := (.agg #[(str s), (i64 0)])) hS9 (.t rfl) rfl (fun w10 b11 hS12 => ?_)
 refine RL.a rfl rfl ?_
 refine RL.nil (CWD.id (CWD.sr (RL.m rfl rfl ?_)))
 replace hS12 := hS12.front 0 rfl rfl
 refine RL.callP Tryz.call26 (.cons (.t rfl) .nil) (blankP_c (Rs := (.box b8 [(i64 0)] 25 :: .box b5 [(i64 0)] 3 :: .box b2 [(.slice none 0 0)] 24 :: Rs)) s 0 b11 hS12 (by omega) (by omega) hb) rfl ?_
 rintro v14 w15 ⟨⟨ha13a, ha13b⟩, hS17⟩
 refine RL.nil (CWD.at [Y 0 (str s), Y 2 (.pointer (some ⟨b2, 0, none⟩)), Y 3 (.pointer (some ⟨b5, 0, none⟩)), Y 4 (.pointer (some ⟨b8, 0, none⟩)), Y 5 (.pointer (some ⟨b11, 0, none⟩))] rfl (CWD.sr (RL.m rfl rfl ?_)))
 refine RL.callR Tryz.call27 (.cons (.t rfl) (.cons .c .nil)) (val_any s b11 hg hb (2 * s.length + 2) (Rs := (.box b8 [(i64 0)] 25 :: .box b5 [(i64 0)] 3 :: .box b2 [(.slice none 0 0)] 24 :: Rs)) (blankTo s 0) 0 hS17 (by omega) (by omega) (by omega) (by omega) (by omega)) rfl (fun ec p M30 w31 hr34 hS32 hle33 => ?_) (fun x21 j22 v23 M25 w24 hr26 hF29 hle28 => ?_)
 ·replace hS32 := (hS32.front 1 rfl rfl).front 2 rfl rfl
  exact hE.p (parse_er hS32 (by unfold parseT; rw [hr34]) hle33 rfl rfl rfl)
 obtain ⟨a19, c20, rfl, hF29a, hF29b, hF29c, hsl_v23, hS27⟩ := hF29
 refine RL.storeS (v := (.slice a19 x21.length c20)) hS27 hsl_v23 (i := 3) rfl (.t rfl) (.t rfl) Tryz.sizeOf24 rfl (cs' := [(.slice a19 x21.length c20)]) rfl (Hs' := (.box b11 [(str s), (i64 j22)] 55 :: .box b8 [(i64 0)] 25 :: .box b5 [(i64 0)] 3 :: .box b2 [(.slice a19 x21.length c20)] 24 :: Rs)) rfl (fun w35 hS36 => ?_)
 refine RL.nil (CWD.at [Y 0 (str s), Y 2 (.pointer (some ⟨b2, 0, none⟩)), Y 3 (.pointer (some ⟨b5, 0, none⟩)), Y 4 (.pointer (some ⟨b8, 0, none⟩)), Y 5 (.pointer (some ⟨b11, 0, none⟩))] rfl (CWD.sr (RL.m rfl rfl ?_)))
 replace hS36 := hS36.front 0 rfl rfl
 refine RL.callP Tryz.call26 (.cons (.t rfl) .nil) (blankP_c (Rs := (.box b8 [(i64 0)] 25 :: .box b5 [(i64 0)] 3 :: .box b2 [(.slice a19 x21.length c20)] 24 :: Rs)) s j22 b11 hS36 (by omega) (by omega) hb) rfl ?_
 rintro v38 w39 ⟨⟨ha37a, ha37b⟩, hS41⟩
 refine RL.nil (CWD.at [Y 0 (str s), Y 2 (.pointer (some ⟨b2, 0, none⟩)), Y 3 (.pointer (some ⟨b5, 0, none⟩)), Y 4 (.pointer (some ⟨b8, 0, none⟩)), Y 5 (.pointer (some ⟨b11, 0, none⟩))] rfl (CWD.seq (CWD.sr (RL.m rfl rfl (RL.u (.nilP (.t rfl)) rfl (RL.u (.fldA (q := ⟨b11, 1, none⟩) (.t rfl) (fun w => by kernel_rfl)) rfl (RL.u (.loadB1 (v := (i64 (blankTo s j22))) hS41 extEq (i := 0) rfl (.t rfl) Tryz.isAgg3 rfl) rfl (RL.m rfl rfl (RL.u (.lenS (.t rfl) Tryz.underlying9) rfl ?_)))))))))
 refine RL.u (.lss (.t rfl) (.t rfl)) rfl ?_
 refine RL.nil (CWD.id ?_)
 refine CWD.cond rfl (fun hb1 => ?_) (fun hb1 => ?_)
 ·try simp only [zb] at hb1
  refine CWD.region ?_
  refine RL.m rfl rfl (RL.m rfl rfl (RL.u (.nilP (.t rfl)) rfl (RL.u (.fldA (q := ⟨b11, 1, none⟩) (.t rfl) (fun w => by kernel_rfl)) rfl (RL.u (.loadB1 (v := (i64 (blankTo s j22))) hS41 extEq (i := 0) rfl (.t rfl) Tryz.isAgg3 rfl) rfl ?_))))
  refine RL.callF Tryz.call28 (.cons (.t rfl) (.cons .c (.cons (.t rfl) .nil))) (fail_c 1 (blankTo s j22) (.pointer (some ⟨b11, 0, none⟩)) _) ?_
  replace hS41 := (hS41.front 1 rfl rfl).front 2 rfl rfl
  replace hS41 := hS41.front 3 rfl rfl
  replace hS41 := hS41.drop ((.box b2 [(.slice a19 x21.length c20)] 24 :: .box b5 [(i64 0)] 3 :: .box b8 [(i64 0)] 25 :: Rs)) (List.append_sublist_append_left [_, _, _] |>.2 (List.sublist_append_right [_] _))
  exact hE.p (parse_er hS41 (by unfold parseT; rw [hr26]; exact if_pos (by omega)) hle28 rfl rfl rfl)
 ·try simp only [zb] at hb1
  refine CWD.skip (CWD.at [Y 2 (.pointer (some ⟨b2, 0, none⟩)), Y 3 (.pointer (some ⟨b5, 0, none⟩)), Y 4 (.pointer (some ⟨b8, 0, none⟩))] rfl ?_)
  refine CWD.sr ?_
  refine RL.u (.loadB1 (v := (.slice a19 x21.length c20)) hS41 extEq (i := 3) rfl (.t rfl) Tryz.isAgg24 rfl) rfl ?_
  refine RL.storeS (v := (.slice a19 x21.length c20)) hS41 hsl_v23 (i := 3) rfl (.t rfl) (.t rfl) Tryz.sizeOf24 rfl (cs' := [(.slice a19 x21.length c20)]) rfl (Hs' := (.box b11 [(str s), (i64 (blankTo s j22))] 55 :: .box b8 [(i64 0)] 25 :: .box b5 [(i64 0)] 3 :: .box b2 [(.slice a19 x21.length c20)] 24 :: Rs)) rfl (fun w43 hS44 => ?_)
  refine RL.st (v := (i64 0)) hS44 (i := 2) rfl (.t rfl) .c Tryz.sizeOf3 rfl rfl rfl rfl rfl (fun w45 hS46 => ?_)
  refine RL.st (v := (i64 0)) hS46 (i := 1) rfl (.t rfl) .c Tryz.sizeOf25 rfl rfl rfl rfl rfl (fun w47 hS48 => ?_)
  refine RL.nil (CWD.id ?_)
  replace hS48 := (hS48.front 1 rfl rfl).front 2 rfl rfl
  replace hS48 := hS48.front 3 rfl rfl
  replace hS48 := hS48.drop ((.box b2 [(.slice a19 x21.length c20)] 24 :: .box b5 [(i64 0)] 3 :: .box b8 [(i64 0)] 25 :: Rs)) (List.append_sublist_append_left [_, _, _] |>.2 (List.sublist_append_right [_] _))
  refine CWD.ret (hE.r (parse_ok hS48 (by unfold parseT; rw [hr26]; exact if_neg (by omega)) hsl_v23 hle28 rfl rfl rfl))

end Go.Proofs.YtjfaikgooldcbaaGreatDoor
namespace Go.Proofs.YtjfaikgooldcbaaGreatDoor
open Go.Eng Go.RowKit

abbrev tP := 67
set_option maxHeartbeats 1000000 in
set_option maxRecDepth 100000 in
theorem copyE_fresh (b : Nat) (w : World) (h0 : w.cell? ⟨b, 0, none⟩ = some (.pointer none)) (hsh : w.shape? b = some (tP, 3)) (hfz : w.frozen? ⟨b, 0, none⟩ = false) :
    Calls Tryz.prog 81 #[.pointer (some ⟨b, 0, none⟩)] w fun e w' => e = .returned (.tuple #[]) ∧ w' = w.setCell ⟨b, 0, none⟩ (.pointer (some ⟨b, 0, none⟩)) := by
  obtain ⟨j, hj, hjs⟩ := Option.map_eq_some_iff.1 (show (Tryz.prog.info? 65).map (·.size) = some 2 by kernel_rfl)
  have mixed : Tryz.prog.follows .mixedOrders = true := by kernel_rfl
  have u82 := fun w => run_underlying (P := Tryz.prog) (w := w) Tryz.underlying62
  go_enter Tryz.func81, Tryz.ntmps81
  go_wp2
  rw [Lib.run_to_unsafe w ⟨b, 0, none⟩ Tryz.underlying62 Tryz.underlying137 hj (by rw [hjs]; decide) hsh (Nat.zero_lt_succ 2)]
  simp only [Result.andThen]
  rw [Oper.upon_value]
  go_wp2
  rw [run_callFunc_extern Tryz.func114 (by kernel_rfl) (by kernel_rfl) (by kernel_rfl) (e := Extern.AbiNoEscape.same) (by kernel_rfl)]
  rw [Lib.run_noEscape]
  simp only [Result.andThen]
  rw [Oper.upon_value]
  go_wp2
  rw [Lib.run_from_unsafe w ⟨b, 0, none⟩ Tryz.underlying137 Tryz.underlying62 hj hsh (by kernel_rfl)]
  simp only [Result.andThen]
  rw [Oper.upon_value]
  go_wp2
  go_end0
  exact ⟨rfl, rfl⟩
theorem setCell_row3 {w : World} {b : Nat} {a v y x : Value} {t : TypeId} (h : w.heap[b]? = some (.cells #[a, v, y] t (0, 0))) : w.setCell ⟨b, 0, none⟩ x = w.setRow b #[x, v, y] := by
  unfold World.setCell World.setRow
  congr 1
  apply Array.ext_getElem?
  intro i
  by_cases hi : b = i
  · subst hi; simp [Array.getElem?_modify, h]
  · simp [Array.getElem?_modify, hi]
theorem copyE_c {w wv : World} {M0 M : Mem} {Rs : List HO} (b : Nat) (a v y : Value) (hS : St w M0 wv M (.box b [a, v, y] tP :: Rs)) (ha : a = .pointer none ∨ a = selfP b) :
    Calls Tryz.prog 81 [.pointer (some ⟨b, 0, none⟩)].toArray wv fun e w' => ∃ u, e = .returned u ∧ St w M0 w' M (.box b [selfP b, v, y] tP :: Rs) := by
  have hb := (hS.obj (i := 0) rfl).2.1
  rcases ha with rfl | rfl
  · refine (copyE_fresh b wv (by simp [World.cell?, hb]) (by simp [World.shape?, hb]) (by simp [World.frozen?, hb])).mono fun e w' ⟨he, hw⟩ => ⟨_, he, ?_⟩
    rw [hw, setCell_row3 hb]
    exact hS.setBox (i := 0) rfl [selfP b, v, y]
  · exact (copy_used b wv (by simp [World.cell?, hb, selfP])).mono fun e w' ⟨he, hw⟩ => ⟨_, he, hw ▸ hS⟩
set_option maxHeartbeats 4000000 in
set_option maxRecDepth 100000 in
theorem stringE_c {w wv : World} {M0 M : Mem} {Rs : List HO} (b : Nat) (a v y : Value) (bs : Str) (l : List Int) (hS : St w M0 wv M (.box b [a, v, y] tP :: .own 5 1 v l.length (l.flatMap u8I) :: Rs)) (hl : l = ints bs) (h0 : bs ≠ []) :
    Calls Tryz.prog 32 [.pointer (some ⟨b, 0, none⟩)].toArray wv fun e w' => ∃ v, e = .returned v ∧ v = str bs ∧ Ext w w' := by
  subst hl
  have hb := hS.obj (i := 0) rfl
  have hown := (hS.obj (i := 1) rfl).1
  have hbk := hb.2.1
  have e1 : (ints bs).flatMap u8I = Lib.byteCells bs := by rw [flat_u8I]; unfold ints; rw [List.map_map]; rfl
  have e2 : (ints bs).length = bs.length := by unfold ints; rw [List.length_map]
  rw [e1, e2] at hown
  have hl0 : bs.length ≠ 0 := by simpa using h0
  obtain ⟨g, cap, cur, rfl, hbg, hg, hnc, hcm, hcs, htake⟩ : ∃ g cap cur, v = .slice (some ⟨g, 0, none⟩) bs.length cap ∧ w.heap.size ≤ g ∧ wv.heap[g]? = some (.cells cur 5 (0, 0)) ∧ bs.length ≤ cap ∧ cap ≤ maxLen ∧ cur.size = cap * 1 ∧ cur.toList.take (bs.length * 1) = Lib.byteCells bs := by
    rcases hown.2 with ⟨_, hz⟩ | ⟨g, cap, cur, hv, r⟩
    · exact absurd hz hl0
    · exact ⟨g, cap, cur, hv, r⟩
  have c1 : wv.drew.cell? ⟨b, 1, none⟩ = some (.slice (some ⟨g, 0, none⟩) bs.length cap) := by
    have : wv.drew.heap[b]? = some (.cells #[a, .slice (some ⟨g, 0, none⟩) bs.length cap, y] tP (0, 0)) := hbk
    rw [Lib.cell_of_heap this]; rfl
  have hSD : (Builtin.unsafeSliceData_ #[63] 91 #[.slice (some ⟨g, 0, none⟩) bs.length cap]).run Tryz.prog wv.drew = .ok (.pointer (some ⟨g, 0, none⟩)) wv.drew :=
    Lib.run_unsafeSliceData_row _ _ _ _ _ _ (by omega)
  have hUS : (Builtin.unsafeString_ #[91, 3] 9 #[.pointer (some ⟨g, 0, none⟩), .int .i64 bs.length]).run Tryz.prog wv.drew = .ok (.string ⟨bs.toArray⟩) (wv.drew.freeze ⟨g, 0, none⟩ bs.length) := by
    refine Lib.run_unsafeString_row wv.drew 91 3 9 5 Tryz.underlying91 (by kernel_rfl) g cur.size (by have hg' : wv.drew.heap[g]? = some (.cells cur 5 (0, 0)) := hg; simp [World.shape?, hg']) bs h0 (by omega) (by unfold maxLen at hcm; omega) ?_
    intro j x hx
    have := hown.cells (g := g) rfl j (.int .u8 x.toNat) (by simp [Lib.byteCells, hx])
    exact this
  have mixed : Tryz.prog.follows .mixedOrders = true := by kernel_rfl
  have ub := fun w => run_underlying (P := Tryz.prog) (w := w) Tryz.underlying65
  have up := fun w => run_underlying (P := Tryz.prog) (w := w) Tryz.underlying62
  have us := fun w => run_underlying (P := Tryz.prog) (w := w) Tryz.underlying63
  have ui := fun w => run_underlying (P := Tryz.prog) (w := w) Tryz.underlying3
  have uu := fun w => run_underlying (P := Tryz.prog) (w := w) Tryz.underlying9
  have uq := fun w => run_underlying (P := Tryz.prog) (w := w) Tryz.underlying91
  go_enter Tryz.func32, Tryz.ntmps32
  go_wp2
  go_region_o
  all_goals (go_wp2; go_ret; exact ⟨_, rfl, rfl, hS.low.trans (Lib.below_freeze (Below.drew (Below.refl w.heap.size wv)) (p := ⟨g, 0, none⟩) hbg _)⟩)
theorem repeatL_two (n : Nat) : Lib.repeatL [32, 32] n = twoN n := by
  induction n with
  | zero => rfl
  | succ n ih => rw [Lib.repeatL, ih]; rfl
theorem repeat2_c (n : Int) (w : World) (h0 : 0 ≤ n) (h1 : n ≤ 1099511627776) :
    Calls Tryz.prog 82 [str [32, 32], i64 n].toArray w fun e w' => e = .returned (str (twoN n.toNat)) ∧ Ext w w' := by
  by_cases ha : n = 0
  · subst ha; exact (Tryz.strings_Repeat_zero ⟨⟨[32, 32]⟩⟩ w).mono fun e w' ⟨he, hw⟩ => ⟨he, hw ▸ Ext.refl _⟩
  · by_cases hb : n = 1
    · subst hb; exact (Tryz.strings_Repeat_one ⟨⟨[32, 32]⟩⟩ w).mono fun e w' ⟨he, hw⟩ => ⟨he, hw ▸ Ext.refl _⟩
    · have := Tryz.strings_Repeat_main ⟨⟨[32, 32]⟩⟩ n.toNat w (by omega) (by omega) (by show 2 * _ ≤ _; omega) (by show 0 < 2; omega)
      rw [show ((n.toNat : Nat) : Int) = n from by omega] at this
      refine this.mono fun e w' ⟨he, hw⟩ => ⟨?_, hw⟩
      rw [he]; show Ending.returned (str (Lib.repeatL [32, 32] n.toNat)) = _; rw [repeatL_two]
end Go.Proofs.YtjfaikgooldcbaaGreatDoor
