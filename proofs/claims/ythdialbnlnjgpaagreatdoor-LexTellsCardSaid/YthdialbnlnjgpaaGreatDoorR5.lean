import Derived.Test.YthdialbnlnjgpaaGreatDoorEngL
import Derived.Laws.BitsLemmas
import Derived.Test.YthdialbnlnjgpaaGreatDoorPure
import Derived.Test.YthdialbnlnjgpaaGreatDoorProg
import Derived.Test.YthdialbnlnjgpaaGreatDoorR4
set_option linter.unusedVariables false
set_option linter.unusedSimpArgs false
namespace Go.Proofs.YthdialbnlnjgpaaGreatDoor
open Go.Eng

/- loupe/louperef01.whole -/
set_option maxRecDepth 100000 in
theorem whole_c (s : Str) (w : World) (hb : len s ≤ 1099511627776) :
  Calls Tryz.prog 96 [(str s)].toArray w fun e w' => e = .returned (.tuple #[(i64 ((wholeR s).1)), (i64 ((wholeR s).2.1)), (.bool ((wholeR s).2.2))]) ∧ w' = w := by
 refine CW.enter Tryz.func96 rfl Tryz.ntmps96 (Nat.le_of_ble_eq_true rfl) ?_
 have := len_nonneg s
 have hr0 := runTo_bd s 0
 have hr1 := runTo_bd s 1
 refine CW.weaken [0] (L' := [Y 0 (str s)]) ?_ rfl
 refine CW.sr ?_
 refine RL.u (.assign .c) rfl (RL.u (.assign .c) rfl (RL.u (.assign .c) rfl ?_))
 refine RL.nil (CW.at [Y 0 (str s)] rfl ?_)
 refine CW.sr ?_
 refine RL.u (.assign .c) rfl ?_
 refine RL.nil (CW.at [Y 0 (str s), Y 5 (i64 0)] rfl ?_)
 refine CW.seq ?_
 refine CW.sr ?_
 refine RL.m rfl rfl (RL.u (.lenS (.t rfl) Tryz.underlying9) rfl (RL.u (.gtr (.t rfl) .c) rfl (RL.m rfl rfl (RL.v (.pos rfl rfl) (.move (.t rfl)) rfl (RL.v (.pos rfl rfl) (.idxS (.g rfl (fun h => h)) .c Tryz.underlying9 (fun hW => by simp only [zb] at hW; omega)) rfl ?_)))))
 refine RL.v (.pos rfl rfl) (.eql (.g rfl (fun h => h)) .c) rfl (RL.u (.and (.t rfl) (.g rfl (fun h => h))) rfl ?_)
 refine RL.nil (CW.at [Y 0 (str s), Y 5 (i64 0), Y 14 (.bool ((decide ((0) < (len (s)))) && ((byteAt (s) (0)) == (45))))] rfl ?_)
 refine CW.cond rfl (fun hb1 => ?_) (fun hb1 => ?_)
 ·try simp only [zb] at hb1
  refine CW.region ?_
  refine RL.u (.assign .c) rfl ?_
  refine RL.nil (CW.at [Y 0 (str s), Y 5 (i64 1)] rfl ?_)
  refine CW.sr ?_
  refine RL.m rfl rfl (RL.m rfl rfl ?_)
  refine RL.callS .none Tryz.call97 (.cons (.t rfl) (.cons (.t rfl) .nil)) (fun _ => (run1_c (s) (1) _ (by omega) (by omega) (by omega))) rfl ?_
  refine RL.a rfl rfl ?_
  refine RL.nil (CW.at [Y 0 (str s), Y 5 (i64 1), Y 6 (i64 (runTo (s) (1)))] rfl ?_)
  refine CW.seq ?_
  refine CW.sr ?_
  refine RL.m rfl rfl (RL.m rfl rfl (RL.u (.eql (.t rfl) (.t rfl)) rfl ?_))
  refine RL.nil (CW.at [Y 0 (str s), Y 5 (i64 1), Y 6 (i64 (runTo (s) (1))), Y 20 (.bool ((runTo (s) (1)) == (1)))] rfl ?_)
  refine CW.cond rfl (fun hb2 => ?_) (fun hb2 => ?_)
  ·try simp only [zb] at hb2
   refine CW.sr ?_
   refine RL.m rfl rfl (RL.m rfl rfl (RL.a rfl rfl (RL.a rfl rfl (RL.u (.assign .c) rfl ?_))))
   refine RL.nil (CW.at [Y 2 (i64 1), Y 3 (i64 1), Y 4 (.bool false)] rfl ?_)
   refine CW.ret (ret3 (P := Tryz.prog) (fn := Tryz.f96) (R := fun e w' => e = .returned (.tuple #[(i64 ((wholeR s).1)), (i64 ((wholeR s).2.1)), (.bool ((wholeR s).2.2))]) ∧ w' = w) rfl rfl rfl rfl ?_)
   have hq : wholeR s = (1, 1, false) := by
    unfold wholeR
    (try dsimp only)
    (repeat' split)
    all_goals first | rfl | (exfalso; omega) | (exfalso; simp_all; done) | (simp_all; done) | (exfalso; simp_all; omega)
   rw [hq]; exact ⟨rfl, rfl⟩
  ·try simp only [zb] at hb2
   refine CW.skip (CW.at [Y 0 (str s), Y 5 (i64 1), Y 6 (i64 (runTo (s) (1)))] rfl ?_)
   refine CW.seq ?_
   refine CW.sr ?_
   refine RL.m rfl rfl (RL.m rfl rfl (RL.u (.idxS (.t rfl) (.t rfl) Tryz.underlying9 (fun _ => by omega)) rfl (RL.u (.eql (.t rfl) .c) rfl ?_)))
   refine RL.nil (CW.at [Y 5 (i64 1), Y 6 (i64 (runTo (s) (1))), Y 26 (.bool ((byteAt (s) (1)) == (48)))] rfl ?_)
   refine CW.cond rfl (fun hb3 => ?_) (fun hb3 => ?_)
   ·try simp only [zb] at hb3
    refine CW.region ?_
    refine RL.m rfl rfl (RL.u (.add (.t rfl) .c (fun _ => by omega)) rfl (RL.a rfl rfl ?_))
    refine RL.nil (CW.at [Y 5 (i64 1), Y 6 (i64 ((1) + (1)))] rfl ?_)
    refine CW.sr ?_
    refine RL.m rfl rfl (RL.m rfl rfl (RL.a rfl rfl (RL.a rfl rfl (RL.u (.assign .c) rfl ?_))))
    refine RL.nil (CW.at [Y 2 (i64 1), Y 3 (i64 ((1) + (1))), Y 4 (.bool true)] rfl ?_)
    refine CW.ret (ret3 (P := Tryz.prog) (fn := Tryz.f96) (R := fun e w' => e = .returned (.tuple #[(i64 ((wholeR s).1)), (i64 ((wholeR s).2.1)), (.bool ((wholeR s).2.2))]) ∧ w' = w) rfl rfl rfl rfl ?_)
    have hq : wholeR s = (1, (1) + (1), true) := by
     unfold wholeR
     (try dsimp only)
     (repeat' split)
     all_goals first | rfl | (exfalso; omega) | (exfalso; simp_all; done) | (simp_all; done) | (exfalso; simp_all; omega)
    rw [hq]; exact ⟨rfl, rfl⟩
   ·try simp only [zb] at hb3
    refine CW.skip (CW.at [Y 5 (i64 1), Y 6 (i64 (runTo (s) (1)))] rfl ?_)
    refine CW.sr ?_
    refine RL.m rfl rfl (RL.m rfl rfl (RL.a rfl rfl (RL.a rfl rfl (RL.u (.assign .c) rfl ?_))))
    refine RL.nil (CW.at [Y 2 (i64 1), Y 3 (i64 (runTo (s) (1))), Y 4 (.bool true)] rfl ?_)
    refine CW.ret (ret3 (P := Tryz.prog) (fn := Tryz.f96) (R := fun e w' => e = .returned (.tuple #[(i64 ((wholeR s).1)), (i64 ((wholeR s).2.1)), (.bool ((wholeR s).2.2))]) ∧ w' = w) rfl rfl rfl rfl ?_)
    have hq : wholeR s = (1, runTo (s) (1), true) := by
     unfold wholeR
     (try dsimp only)
     (repeat' split)
     all_goals first | rfl | (exfalso; omega) | (exfalso; simp_all; done) | (simp_all; done) | (exfalso; simp_all; omega)
    rw [hq]; exact ⟨rfl, rfl⟩
 ·try simp only [zb] at hb1
  refine CW.skip (CW.at [Y 0 (str s), Y 5 (i64 0)] rfl ?_)
  refine CW.sr ?_
  refine RL.m rfl rfl (RL.m rfl rfl ?_)
  refine RL.callS .none Tryz.call97 (.cons (.t rfl) (.cons (.t rfl) .nil)) (fun _ => (run1_c (s) (0) _ (by omega) (by omega) (by omega))) rfl ?_
  refine RL.a rfl rfl ?_
  refine RL.nil (CW.at [Y 0 (str s), Y 5 (i64 0), Y 6 (i64 (runTo (s) (0)))] rfl ?_)
  refine CW.seq ?_
  refine CW.sr ?_
  refine RL.m rfl rfl (RL.m rfl rfl (RL.u (.eql (.t rfl) (.t rfl)) rfl ?_))
  refine RL.nil (CW.at [Y 0 (str s), Y 5 (i64 0), Y 6 (i64 (runTo (s) (0))), Y 20 (.bool ((runTo (s) (0)) == (0)))] rfl ?_)
  refine CW.cond rfl (fun hb4 => ?_) (fun hb4 => ?_)
  ·try simp only [zb] at hb4
   refine CW.sr ?_
   refine RL.m rfl rfl (RL.m rfl rfl (RL.a rfl rfl (RL.a rfl rfl (RL.u (.assign .c) rfl ?_))))
   refine RL.nil (CW.at [Y 2 (i64 0), Y 3 (i64 0), Y 4 (.bool false)] rfl ?_)
   refine CW.ret (ret3 (P := Tryz.prog) (fn := Tryz.f96) (R := fun e w' => e = .returned (.tuple #[(i64 ((wholeR s).1)), (i64 ((wholeR s).2.1)), (.bool ((wholeR s).2.2))]) ∧ w' = w) rfl rfl rfl rfl ?_)
   have hq : wholeR s = (0, 0, false) := by
    unfold wholeR
    (try dsimp only)
    (repeat' split)
    all_goals first | rfl | (exfalso; omega) | (exfalso; simp_all; done) | (simp_all; done) | (exfalso; simp_all; omega)
   rw [hq]; exact ⟨rfl, rfl⟩
  ·try simp only [zb] at hb4
   refine CW.skip (CW.at [Y 0 (str s), Y 5 (i64 0), Y 6 (i64 (runTo (s) (0)))] rfl ?_)
   refine CW.seq ?_
   refine CW.sr ?_
   refine RL.m rfl rfl (RL.m rfl rfl (RL.u (.idxS (.t rfl) (.t rfl) Tryz.underlying9 (fun _ => by omega)) rfl (RL.u (.eql (.t rfl) .c) rfl ?_)))
   refine RL.nil (CW.at [Y 5 (i64 0), Y 6 (i64 (runTo (s) (0))), Y 26 (.bool ((byteAt (s) (0)) == (48)))] rfl ?_)
   refine CW.cond rfl (fun hb5 => ?_) (fun hb5 => ?_)
   ·try simp only [zb] at hb5
    refine CW.region ?_
    refine RL.m rfl rfl (RL.u (.add (.t rfl) .c (fun _ => by omega)) rfl (RL.a rfl rfl ?_))
    refine RL.nil (CW.at [Y 5 (i64 0), Y 6 (i64 ((0) + (1)))] rfl ?_)
    refine CW.sr ?_
    refine RL.m rfl rfl (RL.m rfl rfl (RL.a rfl rfl (RL.a rfl rfl (RL.u (.assign .c) rfl ?_))))
    refine RL.nil (CW.at [Y 2 (i64 0), Y 3 (i64 ((0) + (1))), Y 4 (.bool true)] rfl ?_)
    refine CW.ret (ret3 (P := Tryz.prog) (fn := Tryz.f96) (R := fun e w' => e = .returned (.tuple #[(i64 ((wholeR s).1)), (i64 ((wholeR s).2.1)), (.bool ((wholeR s).2.2))]) ∧ w' = w) rfl rfl rfl rfl ?_)
    have hq : wholeR s = (0, (0) + (1), true) := by
     unfold wholeR
     (try dsimp only)
     (repeat' split)
     all_goals first | rfl | (exfalso; omega) | (exfalso; simp_all; done) | (simp_all; done) | (exfalso; simp_all; omega)
    rw [hq]; exact ⟨rfl, rfl⟩
   ·try simp only [zb] at hb5
    refine CW.skip (CW.at [Y 5 (i64 0), Y 6 (i64 (runTo (s) (0)))] rfl ?_)
    refine CW.sr ?_
    refine RL.m rfl rfl (RL.m rfl rfl (RL.a rfl rfl (RL.a rfl rfl (RL.u (.assign .c) rfl ?_))))
    refine RL.nil (CW.at [Y 2 (i64 0), Y 3 (i64 (runTo (s) (0))), Y 4 (.bool true)] rfl ?_)
    refine CW.ret (ret3 (P := Tryz.prog) (fn := Tryz.f96) (R := fun e w' => e = .returned (.tuple #[(i64 ((wholeR s).1)), (i64 ((wholeR s).2.1)), (.bool ((wholeR s).2.2))]) ∧ w' = w) rfl rfl rfl rfl ?_)
    have hq : wholeR s = (0, runTo (s) (0), true) := by
     unfold wholeR
     (try dsimp only)
     (repeat' split)
     all_goals first | rfl | (exfalso; omega) | (exfalso; simp_all; done) | (simp_all; done) | (exfalso; simp_all; omega)
    rw [hq]; exact ⟨rfl, rfl⟩

/- loupe/louperef01.power -/
set_option maxRecDepth 100000 in
theorem power_c (s : Str) (i : Int) (w : World) (h0 : 0 ≤ i) (h1 : i ≤ len s) (hb : len s ≤ 1099511627776) :
  Calls Tryz.prog 98 [(str s), (i64 i)].toArray w fun e w' => e = .returned (.tuple #[(i64 ((powerR s i).1)), (str ((powerR s i).2.1)), (i64 ((powerR s i).2.2))]) ∧ Ext w w' := by
 refine CW.enter Tryz.func98 rfl Tryz.ntmps98 (Nat.le_of_ble_eq_true rfl) ?_
 have := len_nonneg s
 have hr1 := runTo_bd s (i + 1)
 have hr2 := runTo_bd s (i + 1 + 1)
 have hS : St w (fun _ _ => none) w (fun _ _ => none) [] := St.start ⟨fun _ _ _ h => by cases h⟩
 refine CW.weaken [0, 1] (L' := [Y 0 (str s), Y 1 (i64 i)]) ?_ rfl
 refine CW.sr ?_
 refine RL.u (.assign .c) rfl (RL.u (.assign .c) rfl (RL.u (.assign .c) rfl ?_))
 refine RL.nil (CW.at [Y 0 (str s), Y 1 (i64 i)] rfl ?_)
 refine CW.seq ?_
 refine CW.sr ?_
 refine RL.m rfl rfl (RL.m rfl rfl (RL.u (.lenS (.t rfl) Tryz.underlying9) rfl (RL.u (.eql (.t rfl) (.t rfl)) rfl (RL.m rfl rfl (RL.v (.neg rfl rfl) (.move (.t rfl)) rfl ?_)))))
 refine RL.v (.neg rfl rfl) (.move (.t rfl)) rfl (RL.v (.neg rfl rfl) (.idxS (.g rfl (fun h => h)) (.g rfl (fun h => h)) Tryz.underlying9 (fun hW => by simp only [zb] at hW; omega)) rfl (RL.v (.neg rfl rfl) (.neq (.g rfl (fun h => h)) .c) rfl (RL.v (.neg rfl rfl) (.move (.g rfl (fun h => h))) rfl (RL.v (.posG rfl rfl) (.move (.t rfl)) rfl (RL.v (.posG rfl rfl) (.move (.t rfl)) rfl ?_)))))
 refine RL.v (.posG rfl rfl) (.idxS (.g rfl (fun h => h)) (.g rfl (fun h => h)) Tryz.underlying9 (fun hW => by simp only [zb] at hW; omega)) rfl (RL.v (.posG rfl rfl) (.neq (.g rfl (fun h => h)) .c) rfl (RL.v (.neg rfl rfl) (.and (.g rfl (fun h => h)) (.g rfl (fun h => h))) rfl (RL.u (.or (.t rfl) (.g rfl (fun h => h))) rfl ?_)))
 refine RL.nil (CW.at [Y 0 (str s), Y 1 (i64 i), Y 23 (.bool (((i) == (len (s))) || (((byteAt (s) (i)) != (101)) && ((byteAt (s) (i)) != (69)))))] rfl ?_)
 refine CW.cond rfl (fun hb1 => ?_) (fun hb1 => ?_)
 ·try simp only [zb] at hb1
  refine CW.sr ?_
  refine RL.m rfl rfl (RL.u (.assign .c) rfl (RL.u (.assign .c) rfl (RL.a rfl rfl ?_)))
  refine RL.nil (CW.at [Y 4 (i64 0), Y 5 (str []), Y 6 (i64 i)] rfl ?_)
  refine CW.ret (ret3 (P := Tryz.prog) (fn := Tryz.f98) (R := fun e w' => e = .returned (.tuple #[(i64 ((powerR s i).1)), (str ((powerR s i).2.1)), (i64 ((powerR s i).2.2))]) ∧ Ext w w') rfl rfl rfl rfl ?_)
  have hq : powerR s i = (0, [], i) := by
   unfold powerR
   (try dsimp only)
   (repeat' split)
   all_goals first | rfl | (exfalso; omega) | (exfalso; simp_all; done) | (simp_all; done) | (exfalso; simp_all; omega)
  rw [hq]; exact ⟨rfl, hS.low⟩
 ·try simp only [zb] at hb1
  refine CW.skip (CW.at [Y 0 (str s), Y 1 (i64 i)] rfl ?_)
  refine CW.sr ?_
  refine RL.m rfl rfl (RL.u (.add (.t rfl) .c (fun _ => by omega)) rfl (RL.a rfl rfl ?_))
  refine RL.nil (CW.at [Y 0 (str s), Y 1 (i64 ((i) + (1)))] rfl ?_)
  refine CW.sr ?_
  refine RL.u (.assign .c) rfl ?_
  refine RL.nil (CW.at [Y 0 (str s), Y 1 (i64 ((i) + (1))), Y 7 (i64 1)] rfl ?_)
  refine CW.seq ?_
  refine CW.sr ?_
  refine RL.m rfl rfl (RL.m rfl rfl (RL.u (.lenS (.t rfl) Tryz.underlying9) rfl (RL.u (.lss (.t rfl) (.t rfl)) rfl (RL.m rfl rfl (RL.v (.pos rfl rfl) (.move (.t rfl)) rfl ?_)))))
  refine RL.v (.pos rfl rfl) (.move (.t rfl)) rfl (RL.v (.pos rfl rfl) (.idxS (.g rfl (fun h => h)) (.g rfl (fun h => h)) Tryz.underlying9 (fun hW => by simp only [zb] at hW; omega)) rfl (RL.v (.pos rfl rfl) (.eql (.g rfl (fun h => h)) .c) rfl (RL.v (.pos rfl rfl) (.move (.g rfl (fun h => h))) rfl (RL.v (.negG rfl rfl) (.move (.t rfl)) rfl (RL.v (.negG rfl rfl) (.move (.t rfl)) rfl ?_)))))
  refine RL.v (.negG rfl rfl) (.idxS (.g rfl (fun h => h)) (.g rfl (fun h => h)) Tryz.underlying9 (fun hW => by simp only [zb] at hW; omega)) rfl (RL.v (.negG rfl rfl) (.eql (.g rfl (fun h => h)) .c) rfl (RL.v (.pos rfl rfl) (.or (.g rfl (fun h => h)) (.g rfl (fun h => h))) rfl (RL.u (.and (.t rfl) (.g rfl (fun h => h))) rfl ?_)))
  refine RL.nil (CW.at [Y 0 (str s), Y 1 (i64 ((i) + (1))), Y 7 (i64 1), Y 42 (.bool ((decide (((i) + (1)) < (len (s)))) && (((byteAt (s) ((i) + (1))) == (43)) || ((byteAt (s) ((i) + (1))) == (45)))))] rfl ?_)
  refine CW.cond rfl (fun hb2 => ?_) (fun hb2 => ?_)
  ·try simp only [zb] at hb2
   refine CW.seq ?_
   refine CW.sr ?_
   refine RL.m rfl rfl (RL.m rfl rfl (RL.u (.idxS (.t rfl) (.t rfl) Tryz.underlying9 (fun _ => by omega)) rfl (RL.u (.eql (.t rfl) .c) rfl ?_)))
   refine RL.nil (CW.at [Y 0 (str s), Y 1 (i64 ((i) + (1))), Y 7 (i64 1), Y 46 (.bool ((byteAt (s) ((i) + (1))) == (45)))] rfl ?_)
   refine CW.cond rfl (fun hb3 => ?_) (fun hb3 => ?_)
   ·try simp only [zb] at hb3
    refine CW.region ?_
    refine RL.u (.assign .c) rfl ?_
    refine RL.nil (CW.at [Y 0 (str s), Y 1 (i64 ((i) + (1))), Y 7 (i64 (-1))] rfl ?_)
    refine CW.region ?_
    refine RL.m rfl rfl (RL.u (.add (.t rfl) .c (fun _ => by omega)) rfl (RL.a rfl rfl ?_))
    refine RL.nil (CW.at [Y 0 (str s), Y 1 (i64 (((i) + (1)) + (1))), Y 7 (i64 (-1))] rfl ?_)
    refine CW.seq ?_
    refine CW.regionD hS tryz_mixed (by decide +kernel) ?_
    refine RQ.v .none (.move (.t rfl)) rfl ?_
    refine RQ.v .none (.move (.t rfl)) rfl ?_
    refine RQ.v .none (.move (.t rfl)) rfl ?_
    refine RQ.v .none (.move (.t rfl)) rfl ?_
    refine RQ.v .none (.move (.t rfl)) rfl ?_
    refine RQ.call .none Tryz.call97 (.cons (.t rfl) (.cons (.t rfl) .nil)) (fun _ => (fun w2 hw2 => ((run1_c (s) (((i) + (1)) + (1)) _ (by omega) (by omega) (by omega))).mono (fun e w3 h3 => ⟨h3.1, h3.2 ▸ hw2⟩))) rfl ?_
    refine RQ.v .none (.slS (.t rfl) (.t rfl) (.t rfl) Tryz.underlying9 (fun _ => by omega)) rfl ?_
    refine RQ.v .none (.move (.t rfl)) rfl ?_
    refine RQ.v .none (.move (.t rfl)) rfl ?_
    refine RQ.call .none Tryz.call97 (.cons (.t rfl) (.cons (.t rfl) .nil)) (fun _ => (fun w2 hw2 => ((run1_c (s) (((i) + (1)) + (1)) _ (by omega) (by omega) (by omega))).mono (fun e w3 h3 => ⟨h3.1, h3.2 ▸ hw2⟩))) rfl ?_
    refine RQ.v .none (.assign (.t rfl)) rfl ?_
    refine RQ.v .none (.assign (.t rfl)) rfl ?_
    refine RQ.v .none (.assign (.t rfl)) rfl ?_
    refine RQ.nil (fun a hs w1 hS2 => CW.at [Y 4 (i64 (-1)), Y 5 (str (Eng.sub (s) (((i) + (1)) + (1)) (runTo (s) (((i) + (1)) + (1))))), Y 6 (i64 (runTo (s) (((i) + (1)) + (1))))] rfl ?_ a hs)
    refine CW.ret (ret3 (P := Tryz.prog) (fn := Tryz.f98) (R := fun e w' => e = .returned (.tuple #[(i64 ((powerR s i).1)), (str ((powerR s i).2.1)), (i64 ((powerR s i).2.2))]) ∧ Ext w w') rfl rfl rfl rfl ?_)
    have hq : powerR s i = ((-1), Eng.sub (s) (((i) + (1)) + (1)) (runTo (s) (((i) + (1)) + (1))), runTo (s) (((i) + (1)) + (1))) := by
     unfold powerR
     (try dsimp only)
     (repeat' split)
     all_goals first | rfl | (exfalso; omega) | (exfalso; simp_all; done) | (simp_all; done) | (exfalso; simp_all; omega)
    rw [hq]; exact ⟨rfl, hS2.low⟩
   ·try simp only [zb] at hb3
    refine CW.skip (CW.at [Y 0 (str s), Y 1 (i64 ((i) + (1))), Y 7 (i64 1)] rfl ?_)
    refine CW.region ?_
    refine RL.m rfl rfl (RL.u (.add (.t rfl) .c (fun _ => by omega)) rfl (RL.a rfl rfl ?_))
    refine RL.nil (CW.at [Y 0 (str s), Y 1 (i64 (((i) + (1)) + (1))), Y 7 (i64 1)] rfl ?_)
    refine CW.seq ?_
    refine CW.regionD hS tryz_mixed (by decide +kernel) ?_
    refine RQ.v .none (.move (.t rfl)) rfl ?_
    refine RQ.v .none (.move (.t rfl)) rfl ?_
    refine RQ.v .none (.move (.t rfl)) rfl ?_
    refine RQ.v .none (.move (.t rfl)) rfl ?_
    refine RQ.v .none (.move (.t rfl)) rfl ?_
    refine RQ.call .none Tryz.call97 (.cons (.t rfl) (.cons (.t rfl) .nil)) (fun _ => (fun w2 hw2 => ((run1_c (s) (((i) + (1)) + (1)) _ (by omega) (by omega) (by omega))).mono (fun e w3 h3 => ⟨h3.1, h3.2 ▸ hw2⟩))) rfl ?_
    refine RQ.v .none (.slS (.t rfl) (.t rfl) (.t rfl) Tryz.underlying9 (fun _ => by omega)) rfl ?_
    refine RQ.v .none (.move (.t rfl)) rfl ?_
    refine RQ.v .none (.move (.t rfl)) rfl ?_
    refine RQ.call .none Tryz.call97 (.cons (.t rfl) (.cons (.t rfl) .nil)) (fun _ => (fun w2 hw2 => ((run1_c (s) (((i) + (1)) + (1)) _ (by omega) (by omega) (by omega))).mono (fun e w3 h3 => ⟨h3.1, h3.2 ▸ hw2⟩))) rfl ?_
    refine RQ.v .none (.assign (.t rfl)) rfl ?_
    refine RQ.v .none (.assign (.t rfl)) rfl ?_
    refine RQ.v .none (.assign (.t rfl)) rfl ?_
    refine RQ.nil (fun a hs w3 hS4 => CW.at [Y 4 (i64 1), Y 5 (str (Eng.sub (s) (((i) + (1)) + (1)) (runTo (s) (((i) + (1)) + (1))))), Y 6 (i64 (runTo (s) (((i) + (1)) + (1))))] rfl ?_ a hs)
    refine CW.ret (ret3 (P := Tryz.prog) (fn := Tryz.f98) (R := fun e w' => e = .returned (.tuple #[(i64 ((powerR s i).1)), (str ((powerR s i).2.1)), (i64 ((powerR s i).2.2))]) ∧ Ext w w') rfl rfl rfl rfl ?_)
    have hq : powerR s i = (1, Eng.sub (s) (((i) + (1)) + (1)) (runTo (s) (((i) + (1)) + (1))), runTo (s) (((i) + (1)) + (1))) := by
     unfold powerR
     (try dsimp only)
     (repeat' split)
     all_goals first | rfl | (exfalso; omega) | (exfalso; simp_all; done) | (simp_all; done) | (exfalso; simp_all; omega)
    rw [hq]; exact ⟨rfl, hS4.low⟩
  ·try simp only [zb] at hb2
   refine CW.skip (CW.at [Y 0 (str s), Y 1 (i64 ((i) + (1))), Y 7 (i64 1)] rfl ?_)
   refine CW.seq ?_
   refine CW.regionD hS tryz_mixed (by decide +kernel) ?_
   refine RQ.v .none (.move (.t rfl)) rfl ?_
   refine RQ.v .none (.move (.t rfl)) rfl ?_
   refine RQ.v .none (.move (.t rfl)) rfl ?_
   refine RQ.v .none (.move (.t rfl)) rfl ?_
   refine RQ.v .none (.move (.t rfl)) rfl ?_
   refine RQ.call .none Tryz.call97 (.cons (.t rfl) (.cons (.t rfl) .nil)) (fun _ => (fun w2 hw2 => ((run1_c (s) ((i) + (1)) _ (by omega) (by omega) (by omega))).mono (fun e w3 h3 => ⟨h3.1, h3.2 ▸ hw2⟩))) rfl ?_
   refine RQ.v .none (.slS (.t rfl) (.t rfl) (.t rfl) Tryz.underlying9 (fun _ => by omega)) rfl ?_
   refine RQ.v .none (.move (.t rfl)) rfl ?_
   refine RQ.v .none (.move (.t rfl)) rfl ?_
   refine RQ.call .none Tryz.call97 (.cons (.t rfl) (.cons (.t rfl) .nil)) (fun _ => (fun w2 hw2 => ((run1_c (s) ((i) + (1)) _ (by omega) (by omega) (by omega))).mono (fun e w3 h3 => ⟨h3.1, h3.2 ▸ hw2⟩))) rfl ?_
   refine RQ.v .none (.assign (.t rfl)) rfl ?_
   refine RQ.v .none (.assign (.t rfl)) rfl ?_
   refine RQ.v .none (.assign (.t rfl)) rfl ?_
   refine RQ.nil (fun a hs w5 hS6 => CW.at [Y 4 (i64 1), Y 5 (str (Eng.sub (s) ((i) + (1)) (runTo (s) ((i) + (1))))), Y 6 (i64 (runTo (s) ((i) + (1))))] rfl ?_ a hs)
   refine CW.ret (ret3 (P := Tryz.prog) (fn := Tryz.f98) (R := fun e w' => e = .returned (.tuple #[(i64 ((powerR s i).1)), (str ((powerR s i).2.1)), (i64 ((powerR s i).2.2))]) ∧ Ext w w') rfl rfl rfl rfl ?_)
   have hq : powerR s i = (1, Eng.sub (s) ((i) + (1)) (runTo (s) ((i) + (1))), runTo (s) ((i) + (1))) := by
    unfold powerR
    (try dsimp only)
    (repeat' split)
    all_goals first | rfl | (exfalso; omega) | (exfalso; simp_all; done) | (simp_all; done) | (exfalso; simp_all; omega)
   rw [hq]; exact ⟨rfl, hS6.low⟩

/- loupe/louperef01.Read -/
set_option maxRecDepth 100000 in
theorem read3_c (s : Str) (w : World) (hb : len s ≤ 1099511627776) :
  Calls Tryz.prog 69 [(str s)].toArray w fun e w' => e = .returned (.tuple #[(ndV ((read1 s).1)), (i64 ((read1 s).2.1)), (i64 ((read1 s).2.2))]) ∧ Ext w w' := by
 refine CW.enter Tryz.func69 rfl Tryz.ntmps69 (Nat.le_of_ble_eq_true rfl) ?_
 have := len_nonneg s
 have hwb := wholeR_bd s
 have hS : St w (fun _ _ => none) w (fun _ _ => none) [] := St.start ⟨fun _ _ _ h => by cases h⟩
 refine CW.weaken [0] (L' := [Y 0 (str s)]) ?_ rfl
 refine CW.sr ?_
 refine RL.alloc hS Tryz.zeroValue31 rfl (fun w1 b2 hS3 => ?_)
 replace hS3 : St w (fun _ _ => none) w1 (fun _ _ => none) [.box b2 [(i64 0), (i64 0), (str []), (str []), (.bool false), (i64 0)] 31] := hS3
 refine RL.u (.assign .c) rfl (RL.u (.assign .c) rfl ?_)
 refine RL.nil (CW.at [Y 0 (str s), Y 2 (.pointer (some ⟨b2, 0, none⟩))] rfl ?_)
 refine CW.sr ?_
 refine RL.m rfl rfl ?_
 refine RL.callS .none Tryz.call96 (.cons (.t rfl) .nil) (fun _ => (whole_c (s) _ (by omega))) rfl ?_
 refine RL.m rfl rfl (RL.u (.ex (.t rfl) rfl) rfl (RL.u (.ex (.t rfl) rfl) rfl (RL.u (.ex (.t rfl) rfl) rfl (RL.a rfl rfl (RL.a rfl rfl ?_)))))
 refine RL.a rfl rfl ?_
 refine RL.nil (CW.at [Y 0 (str s), Y 2 (.pointer (some ⟨b2, 0, none⟩)), Y 5 (i64 ((wholeR (s)).1)), Y 6 (i64 ((wholeR (s)).2.1)), Y 7 (.bool ((wholeR (s)).2.2))] rfl ?_)
 refine CW.seq ?_
 refine CW.sr ?_
 refine RL.m rfl rfl (RL.u (.not (.t rfl)) rfl ?_)
 refine RL.nil (CW.at [Y 0 (str s), Y 2 (.pointer (some ⟨b2, 0, none⟩)), Y 5 (i64 ((wholeR (s)).1)), Y 6 (i64 ((wholeR (s)).2.1)), Y 25 (.bool (!((wholeR (s)).2.2)))] rfl ?_)
 refine CW.cond rfl (fun hb1 => ?_) (fun hb1 => ?_)
 ·try simp only [zb] at hb1
  refine CW.sr ?_
  refine RL.u (.build (vs := []) (v := (.agg #[(i64 0), (i64 0), (str []), (str []), (.bool false), (i64 0)])) .nil (fun w => by kernel_rfl)) rfl (RL.m rfl rfl ?_)
  refine RL.st hS3 (i := 0) rfl (.t rfl) (.t rfl) Tryz.sizeOf31 rfl rfl rfl (Hs' := [.box b2 [(i64 0), (i64 0), (str []), (str []), (.bool false), (i64 0)] 31]) rfl rfl (fun w4 hS5 => ?_)
  refine RL.a rfl rfl (RL.u (.assign .c) rfl ?_)
  refine RL.nil (CW.at [Y 2 (.pointer (some ⟨b2, 0, none⟩)), Y 3 (i64 ((wholeR (s)).1)), Y 4 (i64 1)] rfl ?_)
  refine CW.ret (retR3 (P := Tryz.prog) (fn := Tryz.f69) (R := fun e w' => e = .returned (.tuple #[(ndV ((read1 s).1)), (i64 ((read1 s).2.1)), (i64 ((read1 s).2.2))]) ∧ Ext w w') rfl (.boxN hS5 (i := 0) rfl rfl Tryz.isAgg31 Tryz.sizeOf31) (show RV _ _ _ (.tmp _) _ from rfl) (show RV _ _ _ (.tmp _) _ from rfl) ?_)
  have hq : read1 s = (⟨0, 0, [], [], false, 0⟩, (wholeR (s)).1, 1) := by
   rw [← readR_eq]
   unfold readR expR
   dsimp only
   rw [if_pos (by first | assumption | omega | (simp_all; done) | grind)]
   try rfl
  rw [hq]; exact ⟨rfl, hS5.low⟩
 ·try simp only [zb] at hb1
  have hs1 := sub_len (s := s) (i := (wholeR s).1) (j := (wholeR s).2.1) (by omega) (by omega) (by omega)
  have hl0 := hwb.2.2.2.2 hb1
  refine CW.skip (CW.at [Y 0 (str s), Y 2 (.pointer (some ⟨b2, 0, none⟩)), Y 5 (i64 ((wholeR (s)).1)), Y 6 (i64 ((wholeR (s)).2.1))] rfl ?_)
  refine CW.sr ?_
  refine RL.m rfl rfl (RL.m rfl rfl (RL.m rfl rfl (RL.u (.slS (.t rfl) (.t rfl) (.t rfl) Tryz.underlying9 (fun _ => by first | omega | (rw [len_app]; omega))) rfl (RL.a rfl rfl (RL.u (.assign .c) rfl ?_)))))
  refine RL.nil (CW.at [Y 0 (str s), Y 2 (.pointer (some ⟨b2, 0, none⟩)), Y 6 (i64 ((wholeR (s)).2.1)), Y 8 (str (Eng.sub (s) ((wholeR (s)).1) ((wholeR (s)).2.1))), Y 9 (i64 0)] rfl ?_)
  refine CW.sr ?_
  refine RL.m rfl rfl (RL.a rfl rfl ?_)
  refine RL.nil (CW.at [Y 0 (str s), Y 2 (.pointer (some ⟨b2, 0, none⟩)), Y 6 (i64 ((wholeR (s)).2.1)), Y 8 (str (Eng.sub (s) ((wholeR (s)).1) ((wholeR (s)).2.1))), Y 9 (i64 0), Y 10 (i64 ((wholeR (s)).2.1))] rfl ?_)
  refine CW.seq ?_
  refine CW.sr ?_
  refine RL.m rfl rfl (RL.m rfl rfl (RL.u (.lenS (.t rfl) Tryz.underlying9) rfl (RL.u (.lss (.t rfl) (.t rfl)) rfl (RL.m rfl rfl (RL.v (.pos rfl rfl) (.move (.t rfl)) rfl ?_)))))
  refine RL.v (.pos rfl rfl) (.move (.t rfl)) rfl (RL.v (.pos rfl rfl) (.idxS (.g rfl (fun h => h)) (.g rfl (fun h => h)) Tryz.underlying9 (fun hW => by simp only [zb] at hW; first | omega | (rw [len_app]; omega))) rfl (RL.v (.pos rfl rfl) (.eql (.g rfl (fun h => h)) .c) rfl (RL.u (.and (.t rfl) (.g rfl (fun h => h))) rfl ?_)))
  refine RL.nil (CW.at [Y 0 (str s), Y 2 (.pointer (some ⟨b2, 0, none⟩)), Y 6 (i64 ((wholeR (s)).2.1)), Y 8 (str (Eng.sub (s) ((wholeR (s)).1) ((wholeR (s)).2.1))), Y 9 (i64 0), Y 10 (i64 ((wholeR (s)).2.1)), Y 42 (.bool ((decide (((wholeR (s)).2.1) < (len (s)))) && ((byteAt (s) ((wholeR (s)).2.1)) == (46))))] rfl ?_)
  refine CW.cond rfl (fun hb2 => ?_) (fun hb2 => ?_)
  ·try simp only [zb] at hb2
   have hr := runTo_bd s ((wholeR s).2.1 + 1) (by omega) (by omega)
   have hpb := powerR_bd (s := s) (i := runTo s ((wholeR s).2.1 + 1)) (by omega) (by omega)
   have hs2 := sub_len (s := s) (i := (wholeR s).2.1 + 1) (j := runTo s ((wholeR s).2.1 + 1)) (by omega) (by omega) (by omega)
   refine CW.sr ?_
   refine RL.m rfl rfl (RL.m rfl rfl (RL.u (.add (.t rfl) .c (fun _ => by first | omega | (rw [len_app]; omega))) rfl ?_))
   refine RL.callS .none Tryz.call97 (.cons (.t rfl) (.cons (.t rfl) .nil)) (fun _ => (run1_c (s) (((wholeR (s)).2.1) + (1)) _ (by omega) (by omega) (by omega))) rfl ?_
   refine RL.a rfl rfl ?_
   refine RL.nil (CW.at [Y 0 (str s), Y 2 (.pointer (some ⟨b2, 0, none⟩)), Y 6 (i64 ((wholeR (s)).2.1)), Y 8 (str (Eng.sub (s) ((wholeR (s)).1) ((wholeR (s)).2.1))), Y 10 (i64 (runTo (s) (((wholeR (s)).2.1) + (1))))] rfl ?_)
   refine CW.seq ?_
   refine CW.sr ?_
   refine RL.m rfl rfl (RL.m rfl rfl (RL.u (.add (.t rfl) .c (fun _ => by first | omega | (rw [len_app]; omega))) rfl (RL.u (.eql (.t rfl) (.t rfl)) rfl ?_)))
   refine RL.nil (CW.at [Y 0 (str s), Y 2 (.pointer (some ⟨b2, 0, none⟩)), Y 6 (i64 ((wholeR (s)).2.1)), Y 8 (str (Eng.sub (s) ((wholeR (s)).1) ((wholeR (s)).2.1))), Y 10 (i64 (runTo (s) (((wholeR (s)).2.1) + (1)))), Y 50 (.bool ((runTo (s) (((wholeR (s)).2.1) + (1))) == (((wholeR (s)).2.1) + (1))))] rfl ?_)
   refine CW.cond rfl (fun hb3 => ?_) (fun hb3 => ?_)
   ·try simp only [zb] at hb3
    refine CW.sr ?_
    refine RL.u (.build (vs := []) (v := (.agg #[(i64 0), (i64 0), (str []), (str []), (.bool false), (i64 0)])) .nil (fun w => by kernel_rfl)) rfl (RL.m rfl rfl ?_)
    refine RL.st hS3 (i := 0) rfl (.t rfl) (.t rfl) Tryz.sizeOf31 rfl rfl rfl (Hs' := [.box b2 [(i64 0), (i64 0), (str []), (str []), (.bool false), (i64 0)] 31]) rfl rfl (fun w6 hS7 => ?_)
    refine RL.a rfl rfl (RL.u (.assign .c) rfl ?_)
    refine RL.nil (CW.at [Y 2 (.pointer (some ⟨b2, 0, none⟩)), Y 3 (i64 (runTo (s) (((wholeR (s)).2.1) + (1)))), Y 4 (i64 1)] rfl ?_)
    refine CW.ret (retR3 (P := Tryz.prog) (fn := Tryz.f69) (R := fun e w' => e = .returned (.tuple #[(ndV ((read1 s).1)), (i64 ((read1 s).2.1)), (i64 ((read1 s).2.2))]) ∧ Ext w w') rfl (.boxN hS7 (i := 0) rfl rfl Tryz.isAgg31 Tryz.sizeOf31) (show RV _ _ _ (.tmp _) _ from rfl) (show RV _ _ _ (.tmp _) _ from rfl) ?_)
    have hq : read1 s = (⟨0, 0, [], [], false, 0⟩, runTo (s) (((wholeR (s)).2.1) + (1)), 1) := by
     rw [← readR_eq]
     unfold readR expR
     dsimp only
     rw [if_neg (by first | assumption | omega | (simp_all; done) | grind), if_pos (by first | assumption | omega | (simp_all; done) | grind), if_pos (by first | assumption | omega | (simp_all; done) | grind)]
     try rfl
    rw [hq]; exact ⟨rfl, hS7.low⟩
   ·try simp only [zb] at hb3
    refine CW.skip (CW.at [Y 0 (str s), Y 2 (.pointer (some ⟨b2, 0, none⟩)), Y 6 (i64 ((wholeR (s)).2.1)), Y 8 (str (Eng.sub (s) ((wholeR (s)).1) ((wholeR (s)).2.1))), Y 10 (i64 (runTo (s) (((wholeR (s)).2.1) + (1))))] rfl ?_)
    refine CW.sr ?_
    refine RL.m rfl rfl (RL.m rfl rfl (RL.m rfl rfl (RL.u (.add (.t rfl) .c (fun _ => by first | omega | (rw [len_app]; omega))) rfl (RL.m rfl rfl (RL.u (.slS (.t rfl) (.t rfl) (.t rfl) Tryz.underlying9 (fun _ => by first | omega | (rw [len_app]; omega))) rfl ?_)))))
    refine RL.u (.sadd (.t rfl) (.t rfl) (fun _ => by first | omega | (rw [len_app]; omega))) rfl (RL.a rfl rfl ?_)
    refine RL.nil (CW.at [Y 0 (str s), Y 2 (.pointer (some ⟨b2, 0, none⟩)), Y 6 (i64 ((wholeR (s)).2.1)), Y 8 (str ((Eng.sub (s) ((wholeR (s)).1) ((wholeR (s)).2.1)) ++ (Eng.sub (s) (((wholeR (s)).2.1) + (1)) (runTo (s) (((wholeR (s)).2.1) + (1)))))), Y 10 (i64 (runTo (s) (((wholeR (s)).2.1) + (1))))] rfl ?_)
    refine CW.region ?_
    refine RL.m rfl rfl (RL.u (.add (.t rfl) .c (fun _ => by first | omega | (rw [len_app]; omega))) rfl (RL.m rfl rfl (RL.u (.sub (.t rfl) (.t rfl) (fun _ => by first | omega | (rw [len_app]; omega))) rfl (RL.a rfl rfl ?_))))
    refine RL.nil (CW.at [Y 0 (str s), Y 2 (.pointer (some ⟨b2, 0, none⟩)), Y 8 (str ((Eng.sub (s) ((wholeR (s)).1) ((wholeR (s)).2.1)) ++ (Eng.sub (s) (((wholeR (s)).2.1) + (1)) (runTo (s) (((wholeR (s)).2.1) + (1)))))), Y 9 (i64 ((((wholeR (s)).2.1) + (1)) - (runTo (s) (((wholeR (s)).2.1) + (1))))), Y 10 (i64 (runTo (s) (((wholeR (s)).2.1) + (1))))] rfl ?_)
    refine CW.sr ?_
    refine RL.m rfl rfl (RL.m rfl rfl ?_)
    refine RL.callE hS3 .none Tryz.call98 (.cons (.t rfl) (.cons (.t rfl) .nil)) (fun _ => (power_c (s) (runTo (s) (((wholeR (s)).2.1) + (1))) _ (by omega) (by omega) (by omega))) rfl (fun w8 hS9 => ?_)
    refine RL.m rfl rfl (RL.u (.ex (.t rfl) rfl) rfl (RL.u (.ex (.t rfl) rfl) rfl (RL.u (.ex (.t rfl) rfl) rfl (RL.a rfl rfl (RL.a rfl rfl ?_)))))
    refine RL.a rfl rfl ?_
    refine RL.nil (CW.at [Y 0 (str s), Y 2 (.pointer (some ⟨b2, 0, none⟩)), Y 8 (str ((Eng.sub (s) ((wholeR (s)).1) ((wholeR (s)).2.1)) ++ (Eng.sub (s) (((wholeR (s)).2.1) + (1)) (runTo (s) (((wholeR (s)).2.1) + (1)))))), Y 9 (i64 ((((wholeR (s)).2.1) + (1)) - (runTo (s) (((wholeR (s)).2.1) + (1))))), Y 11 (i64 ((powerR (s) (runTo (s) (((wholeR (s)).2.1) + (1)))).1)), Y 12 (str ((powerR (s) (runTo (s) (((wholeR (s)).2.1) + (1)))).2.1)), Y 13 (i64 ((powerR (s) (runTo (s) (((wholeR (s)).2.1) + (1)))).2.2))] rfl ?_)
    refine CW.seq ?_
    refine CW.sr ?_
    refine RL.m rfl rfl (RL.m rfl rfl (RL.u (.lenS (.t rfl) Tryz.underlying9) rfl (RL.u (.lss (.t rfl) (.t rfl)) rfl (RL.m rfl rfl (RL.v (.neg rfl rfl) (.move (.t rfl)) rfl ?_)))))
    refine RL.v (.neg rfl rfl) (.neq (.g rfl (fun h => h)) .c) rfl (RL.v (.neg rfl rfl) (.move (.g rfl (fun h => h))) rfl (RL.v (.posG rfl rfl) (.move (.t rfl)) rfl (RL.v (.posG rfl rfl) (.seql (.g rfl (fun h => h)) .c) rfl (RL.v (.neg rfl rfl) (.and (.g rfl (fun h => h)) (.g rfl (fun h => h))) rfl (RL.u (.or (.t rfl) (.g rfl (fun h => h))) rfl ?_)))))
    refine RL.nil (CW.at [Y 0 (str s), Y 2 (.pointer (some ⟨b2, 0, none⟩)), Y 8 (str ((Eng.sub (s) ((wholeR (s)).1) ((wholeR (s)).2.1)) ++ (Eng.sub (s) (((wholeR (s)).2.1) + (1)) (runTo (s) (((wholeR (s)).2.1) + (1)))))), Y 9 (i64 ((((wholeR (s)).2.1) + (1)) - (runTo (s) (((wholeR (s)).2.1) + (1))))), Y 11 (i64 ((powerR (s) (runTo (s) (((wholeR (s)).2.1) + (1)))).1)), Y 12 (str ((powerR (s) (runTo (s) (((wholeR (s)).2.1) + (1)))).2.1)), Y 13 (i64 ((powerR (s) (runTo (s) (((wholeR (s)).2.1) + (1)))).2.2)), Y 82 (.bool ((decide (((powerR (s) (runTo (s) (((wholeR (s)).2.1) + (1)))).2.2) < (len (s)))) || ((((powerR (s) (runTo (s) (((wholeR (s)).2.1) + (1)))).1) != (0)) && (((powerR (s) (runTo (s) (((wholeR (s)).2.1) + (1)))).2.1) == ([])))))] rfl ?_)
    refine CW.cond rfl (fun hb4 => ?_) (fun hb4 => ?_)
    ·try simp only [zb] at hb4
     refine CW.sr ?_
     refine RL.u (.build (vs := []) (v := (.agg #[(i64 0), (i64 0), (str []), (str []), (.bool false), (i64 0)])) .nil (fun w => by kernel_rfl)) rfl (RL.m rfl rfl ?_)
     refine RL.st hS9 (i := 0) rfl (.t rfl) (.t rfl) Tryz.sizeOf31 rfl rfl rfl (Hs' := [.box b2 [(i64 0), (i64 0), (str []), (str []), (.bool false), (i64 0)] 31]) rfl rfl (fun w10 hS11 => ?_)
     refine RL.a rfl rfl (RL.u (.assign .c) rfl ?_)
     refine RL.nil (CW.at [Y 2 (.pointer (some ⟨b2, 0, none⟩)), Y 3 (i64 ((powerR (s) (runTo (s) (((wholeR (s)).2.1) + (1)))).2.2)), Y 4 (i64 1)] rfl ?_)
     refine CW.ret (retR3 (P := Tryz.prog) (fn := Tryz.f69) (R := fun e w' => e = .returned (.tuple #[(ndV ((read1 s).1)), (i64 ((read1 s).2.1)), (i64 ((read1 s).2.2))]) ∧ Ext w w') rfl (.boxN hS11 (i := 0) rfl rfl Tryz.isAgg31 Tryz.sizeOf31) (show RV _ _ _ (.tmp _) _ from rfl) (show RV _ _ _ (.tmp _) _ from rfl) ?_)
     have hq : read1 s = (⟨0, 0, [], [], false, 0⟩, (powerR (s) (runTo (s) (((wholeR (s)).2.1) + (1)))).2.2, 1) := by
      rw [← readR_eq]
      unfold readR expR
      dsimp only
      rw [if_neg (by first | assumption | omega | (simp_all; done) | grind), if_pos (by first | assumption | omega | (simp_all; done) | grind), if_neg (by first | assumption | omega | (simp_all; done) | grind), if_pos (by first | assumption | omega | (simp_all; done) | grind)]
      try rfl
     rw [hq]; exact ⟨rfl, hS11.low⟩
    ·try simp only [zb] at hb4
     refine CW.skip (CW.at [Y 0 (str s), Y 2 (.pointer (some ⟨b2, 0, none⟩)), Y 8 (str ((Eng.sub (s) ((wholeR (s)).1) ((wholeR (s)).2.1)) ++ (Eng.sub (s) (((wholeR (s)).2.1) + (1)) (runTo (s) (((wholeR (s)).2.1) + (1)))))), Y 9 (i64 ((((wholeR (s)).2.1) + (1)) - (runTo (s) (((wholeR (s)).2.1) + (1))))), Y 11 (i64 ((powerR (s) (runTo (s) (((wholeR (s)).2.1) + (1)))).1)), Y 12 (str ((powerR (s) (runTo (s) (((wholeR (s)).2.1) + (1)))).2.1))] rfl ?_)
     refine CW.seq ?_
     refine CW.block ?_
     refine CW.loop (σ := Str) (fun t => [Y 0 (str s), Y 2 (.pointer (some ⟨b2, 0, none⟩)), Y 8 (str ((Eng.sub (s) ((wholeR (s)).1) ((wholeR (s)).2.1)) ++ (Eng.sub (s) (((wholeR (s)).2.1) + (1)) (runTo (s) (((wholeR (s)).2.1) + (1)))))), Y 9 (i64 ((((wholeR (s)).2.1) + (1)) - (runTo (s) (((wholeR (s)).2.1) + (1))))), Y 11 (i64 ((powerR (s) (runTo (s) (((wholeR (s)).2.1) + (1)))).1)), Y 12 (str t)]) (fun t wl => St w (fun _ _ => none) wl (fun _ _ => none) [.box b2 [(i64 0), (i64 0), (str []), (str []), (.bool false), (i64 0)] 31] ∧ dropZ t = dropZ ((powerR (s) (runTo (s) (((wholeR (s)).2.1) + (1)))).2.1) ∧ len t ≤ len ((powerR (s) (runTo (s) (((wholeR (s)).2.1) + (1)))).2.1)) (fun t => t.length) ((powerR (s) (runTo (s) (((wholeR (s)).2.1) + (1)))).2.1) [0, 2, 8, 9, 11, 12] rfl ?_ ?_
     ·refine ⟨hS9, ?_⟩; exact ⟨rfl, Int.le_refl _⟩
     ·rintro t wl ⟨hS12, hF, hl⟩
      have hbt := byteAt_bd t 0
      have hlt := len_nonneg t
      have hfl := from_bd t 1
      refine CW.seq ?_
      refine CW.sr ?_
      refine RL.m rfl rfl (RL.u (.lenS (.t rfl) Tryz.underlying9) rfl (RL.u (.gtr (.t rfl) .c) rfl (RL.m rfl rfl (RL.v (.pos rfl rfl) (.move (.t rfl)) rfl (RL.v (.pos rfl rfl) (.idxS (.g rfl (fun h => h)) .c Tryz.underlying9 (fun hW => by simp only [zb] at hW; first | omega | (rw [len_app]; omega))) rfl ?_)))))
      refine RL.v (.pos rfl rfl) (.eql (.g rfl (fun h => h)) .c) rfl (RL.u (.and (.t rfl) (.g rfl (fun h => h))) rfl ?_)
      refine RL.nil (CW.at [Y 0 (str s), Y 2 (.pointer (some ⟨b2, 0, none⟩)), Y 8 (str ((Eng.sub (s) ((wholeR (s)).1) ((wholeR (s)).2.1)) ++ (Eng.sub (s) (((wholeR (s)).2.1) + (1)) (runTo (s) (((wholeR (s)).2.1) + (1)))))), Y 9 (i64 ((((wholeR (s)).2.1) + (1)) - (runTo (s) (((wholeR (s)).2.1) + (1))))), Y 11 (i64 ((powerR (s) (runTo (s) (((wholeR (s)).2.1) + (1)))).1)), Y 12 (str t), Y 92 (.bool ((decide ((0) < (len (t)))) && ((byteAt (t) (0)) == (48))))] rfl ?_)
      refine CW.cond rfl (fun hb5 => ?_) (fun hb5 => ?_)
      ·try simp only [zb] at hb5
       refine CW.skip (CW.at [Y 0 (str s), Y 2 (.pointer (some ⟨b2, 0, none⟩)), Y 8 (str ((Eng.sub (s) ((wholeR (s)).1) ((wholeR (s)).2.1)) ++ (Eng.sub (s) (((wholeR (s)).2.1) + (1)) (runTo (s) (((wholeR (s)).2.1) + (1)))))), Y 9 (i64 ((((wholeR (s)).2.1) + (1)) - (runTo (s) (((wholeR (s)).2.1) + (1))))), Y 11 (i64 ((powerR (s) (runTo (s) (((wholeR (s)).2.1) + (1)))).1)), Y 12 (str t)] rfl ?_)
       refine CW.block ?_
       refine CW.region ?_
       refine RL.m rfl rfl (RL.u (.slSl (.t rfl) .c Tryz.underlying9 (fun _ => by first | omega | (rw [len_app]; omega))) rfl (RL.a rfl rfl ?_))
       refine RL.nil fun a hs => Exists.intro (Eng.from' t 1) ⟨hs.keep [0, 2, 8, 9, 11, 12], ?_, ?_⟩
       ·refine ⟨hS12, ?_⟩
        exact ⟨by rw [dropZ_step (by assumption), hF], by omega⟩
       ·show List.length _ < List.length _; have := from_len t 1 (by omega) (by omega); unfold len at *; omega
      ·try simp only [zb] at hb5
       have ht : t = dropZ (powerR s (runTo s ((wholeR s).2.1 + 1))).2.1 := by rw [← hF, dropZ_stop (by rintro ⟨h1, h2⟩; rcases hb5 with h | h; exact h h1; exact h h2)]
       have htf : ∀ b ∈ t, isFigB b = true := by rw [ht]; exact figs_drop hpb.2.2.2
       refine CW.exit (CW.at [Y 0 (str s), Y 2 (.pointer (some ⟨b2, 0, none⟩)), Y 8 (str ((Eng.sub (s) ((wholeR (s)).1) ((wholeR (s)).2.1)) ++ (Eng.sub (s) (((wholeR (s)).2.1) + (1)) (runTo (s) (((wholeR (s)).2.1) + (1)))))), Y 9 (i64 ((((wholeR (s)).2.1) + (1)) - (runTo (s) (((wholeR (s)).2.1) + (1))))), Y 11 (i64 ((powerR (s) (runTo (s) (((wholeR (s)).2.1) + (1)))).1)), Y 12 (str t)] rfl ?_)
       refine CW.seq ?_
       refine CW.sr ?_
       refine RL.m rfl rfl (RL.u (.lenS (.t rfl) Tryz.underlying9) rfl (RL.u (.gtr (.t rfl) .c) rfl ?_))
       refine RL.nil (CW.at [Y 0 (str s), Y 2 (.pointer (some ⟨b2, 0, none⟩)), Y 8 (str ((Eng.sub (s) ((wholeR (s)).1) ((wholeR (s)).2.1)) ++ (Eng.sub (s) (((wholeR (s)).2.1) + (1)) (runTo (s) (((wholeR (s)).2.1) + (1)))))), Y 9 (i64 ((((wholeR (s)).2.1) + (1)) - (runTo (s) (((wholeR (s)).2.1) + (1))))), Y 11 (i64 ((powerR (s) (runTo (s) (((wholeR (s)).2.1) + (1)))).1)), Y 12 (str t), Y 97 (.bool (decide ((6) < (len (t)))))] rfl ?_)
       refine CW.cond rfl (fun hb6 => ?_) (fun hb6 => ?_)
       ·try simp only [zb] at hb6
        refine CW.sr ?_
        refine RL.u (.build (vs := []) (v := (.agg #[(i64 0), (i64 0), (str []), (str []), (.bool false), (i64 0)])) .nil (fun w => by kernel_rfl)) rfl ?_
        refine RL.st hS12 (i := 0) rfl (.t rfl) (.t rfl) Tryz.sizeOf31 rfl rfl rfl (Hs' := [.box b2 [(i64 0), (i64 0), (str []), (str []), (.bool false), (i64 0)] 31]) rfl rfl (fun w13 hS14 => ?_)
        refine RL.u (.assign .c) rfl (RL.u (.assign .c) rfl ?_)
        refine RL.nil (CW.at [Y 2 (.pointer (some ⟨b2, 0, none⟩)), Y 3 (i64 0), Y 4 (i64 2)] rfl ?_)
        refine CW.ret (retR3 (P := Tryz.prog) (fn := Tryz.f69) (R := fun e w' => e = .returned (.tuple #[(ndV ((read1 s).1)), (i64 ((read1 s).2.1)), (i64 ((read1 s).2.2))]) ∧ Ext w w') rfl (.boxN hS14 (i := 0) rfl rfl Tryz.isAgg31 Tryz.sizeOf31) (show RV _ _ _ (.tmp _) _ from rfl) (show RV _ _ _ (.tmp _) _ from rfl) ?_)
        have hq : read1 s = (⟨0, 0, [], [], false, 0⟩, 0, 2) := by
         rw [← readR_eq]
         unfold readR expR
         dsimp only
         rw [if_neg (by first | assumption | omega | (simp_all; done) | grind), if_pos (by first | assumption | omega | (simp_all; done) | grind), if_neg (by first | assumption | omega | (simp_all; done) | grind), if_neg (by first | assumption | omega | (simp_all; done) | grind), if_pos (by first | assumption | omega | (simp_all; done) | grind)]
         try rfl
        rw [hq]; exact ⟨rfl, hS14.low⟩
       ·try simp only [zb] at hb6
        refine CW.skip (CW.at [Y 0 (str s), Y 2 (.pointer (some ⟨b2, 0, none⟩)), Y 8 (str ((Eng.sub (s) ((wholeR (s)).1) ((wholeR (s)).2.1)) ++ (Eng.sub (s) (((wholeR (s)).2.1) + (1)) (runTo (s) (((wholeR (s)).2.1) + (1)))))), Y 9 (i64 ((((wholeR (s)).2.1) + (1)) - (runTo (s) (((wholeR (s)).2.1) + (1))))), Y 11 (i64 ((powerR (s) (runTo (s) (((wholeR (s)).2.1) + (1)))).1)), Y 12 (str t)] rfl ?_)
        refine CW.sr ?_
        refine RL.u (.assign .c) rfl ?_
        refine RL.nil (CW.at [Y 0 (str s), Y 2 (.pointer (some ⟨b2, 0, none⟩)), Y 8 (str ((Eng.sub (s) ((wholeR (s)).1) ((wholeR (s)).2.1)) ++ (Eng.sub (s) (((wholeR (s)).2.1) + (1)) (runTo (s) (((wholeR (s)).2.1) + (1)))))), Y 9 (i64 ((((wholeR (s)).2.1) + (1)) - (runTo (s) (((wholeR (s)).2.1) + (1))))), Y 11 (i64 ((powerR (s) (runTo (s) (((wholeR (s)).2.1) + (1)))).1)), Y 12 (str t), Y 14 (i64 0)] rfl ?_)
        refine CW.seq ?_
        refine CW.sr ?_
        refine RL.u (.assign .c) rfl ?_
        refine RL.nil (CW.at [Y 0 (str s), Y 2 (.pointer (some ⟨b2, 0, none⟩)), Y 8 (str ((Eng.sub (s) ((wholeR (s)).1) ((wholeR (s)).2.1)) ++ (Eng.sub (s) (((wholeR (s)).2.1) + (1)) (runTo (s) (((wholeR (s)).2.1) + (1)))))), Y 9 (i64 ((((wholeR (s)).2.1) + (1)) - (runTo (s) (((wholeR (s)).2.1) + (1))))), Y 11 (i64 ((powerR (s) (runTo (s) (((wholeR (s)).2.1) + (1)))).1)), Y 12 (str t), Y 14 (i64 0), Y 15 (i64 0)] rfl ?_)
        refine CW.block ?_
        refine CW.loop (σ := Int × Int) (fun (n, k) => [Y 0 (str s), Y 2 (.pointer (some ⟨b2, 0, none⟩)), Y 8 (str ((Eng.sub (s) ((wholeR (s)).1) ((wholeR (s)).2.1)) ++ (Eng.sub (s) (((wholeR (s)).2.1) + (1)) (runTo (s) (((wholeR (s)).2.1) + (1)))))), Y 9 (i64 ((((wholeR (s)).2.1) + (1)) - (runTo (s) (((wholeR (s)).2.1) + (1))))), Y 11 (i64 ((powerR (s) (runTo (s) (((wholeR (s)).2.1) + (1)))).1)), Y 12 (str t), Y 14 (i64 n), Y 15 (i64 k)]) (fun (n, k) wl => St w (fun _ _ => none) wl (fun _ _ => none) [.box b2 [(i64 0), (i64 0), (str []), (str []), (.bool false), (i64 0)] 31] ∧ 0 ≤ k ∧ k ≤ len t ∧ n = decVal (Eng.sub t 0 k)) (fun (n, k) => (len t - k).toNat) ((0, 0)) [0, 2, 8, 9, 11, 12, 14, 15] rfl ?_ ?_
        ·refine ⟨hS12, ?_⟩; exact ⟨by omega, by omega, rfl⟩
        ·rintro ⟨n, k⟩ wl ⟨hS15, hk0, hk1, hn⟩
         have hfk := fun h => figs_at htf hk0 (k := k) h
         have hnb := dec_bd6 htf (by omega) k
         rw [← hn] at hnb
         have hsn := side_bd hpb.1.1 hpb.1.2 hnb.1 hnb.2
         refine CW.seq ?_
         refine CW.sr ?_
         refine RL.m rfl rfl (RL.m rfl rfl (RL.u (.lenS (.t rfl) Tryz.underlying9) rfl (RL.u (.lss (.t rfl) (.t rfl)) rfl ?_)))
         refine RL.nil (CW.at [Y 0 (str s), Y 2 (.pointer (some ⟨b2, 0, none⟩)), Y 8 (str ((Eng.sub (s) ((wholeR (s)).1) ((wholeR (s)).2.1)) ++ (Eng.sub (s) (((wholeR (s)).2.1) + (1)) (runTo (s) (((wholeR (s)).2.1) + (1)))))), Y 9 (i64 ((((wholeR (s)).2.1) + (1)) - (runTo (s) (((wholeR (s)).2.1) + (1))))), Y 11 (i64 ((powerR (s) (runTo (s) (((wholeR (s)).2.1) + (1)))).1)), Y 12 (str t), Y 14 (i64 n), Y 15 (i64 k), Y 102 (.bool (decide ((k) < (len (t)))))] rfl ?_)
         refine CW.cond rfl (fun hb7 => ?_) (fun hb7 => ?_)
         ·try simp only [zb] at hb7
          refine CW.skip (CW.at [Y 0 (str s), Y 2 (.pointer (some ⟨b2, 0, none⟩)), Y 8 (str ((Eng.sub (s) ((wholeR (s)).1) ((wholeR (s)).2.1)) ++ (Eng.sub (s) (((wholeR (s)).2.1) + (1)) (runTo (s) (((wholeR (s)).2.1) + (1)))))), Y 9 (i64 ((((wholeR (s)).2.1) + (1)) - (runTo (s) (((wholeR (s)).2.1) + (1))))), Y 11 (i64 ((powerR (s) (runTo (s) (((wholeR (s)).2.1) + (1)))).1)), Y 12 (str t), Y 14 (i64 n), Y 15 (i64 k)] rfl ?_)
          refine CW.seq ?_
          refine CW.block ?_
          refine CW.region ?_
          refine RL.m rfl rfl (RL.u (.mul (.t rfl) .c (fun _ => by first | omega | (rw [len_app]; omega))) rfl (RL.m rfl rfl (RL.m rfl rfl (RL.u (.idxS (.t rfl) (.t rfl) Tryz.underlying9 (fun _ => by first | omega | (rw [len_app]; omega))) rfl (RL.u (.subK (r := (byteAt (t) (k)) - (48)) (.t rfl) .c (fun _ => by exact Eng.wrap_u8 (by omega))) rfl ?_)))))
          refine RL.u (.cvtK (r := (byteAt (t) (k)) - (48)) (.t rfl) Tryz.underlying5 Tryz.underlying3 (fun _ => by exact Eng.wrap_i64 (by omega))) rfl (RL.u (.add (.t rfl) (.t rfl) (fun _ => by first | omega | (rw [len_app]; omega))) rfl (RL.a rfl rfl ?_))
          refine RL.nil (CW.at [Y 0 (str s), Y 2 (.pointer (some ⟨b2, 0, none⟩)), Y 8 (str ((Eng.sub (s) ((wholeR (s)).1) ((wholeR (s)).2.1)) ++ (Eng.sub (s) (((wholeR (s)).2.1) + (1)) (runTo (s) (((wholeR (s)).2.1) + (1)))))), Y 9 (i64 ((((wholeR (s)).2.1) + (1)) - (runTo (s) (((wholeR (s)).2.1) + (1))))), Y 11 (i64 ((powerR (s) (runTo (s) (((wholeR (s)).2.1) + (1)))).1)), Y 12 (str t), Y 14 (i64 (((n) * (10)) + ((byteAt (t) (k)) - (48)))), Y 15 (i64 k)] rfl ?_)
          refine CW.region ?_
          refine RL.m rfl rfl (RL.u (.add (.t rfl) .c (fun _ => by first | omega | (rw [len_app]; omega))) rfl (RL.a rfl rfl ?_))
          refine RL.nil fun a hs => Exists.intro ((n * 10 + (byteAt t k - 48), k + 1)) ⟨hs.keep [0, 2, 8, 9, 11, 12, 14, 15], ?_, ?_⟩
          ·refine ⟨hS15, ?_⟩
           exact ⟨by omega, by omega, by rw [dec_step hk0 (by omega), ← hn]⟩
          ·show Int.toNat _ < Int.toNat _; omega
         ·try simp only [zb] at hb7
          have hk : k = len t := by omega
          rw [hk, sub_all t (len t) (Int.le_refl _), ht] at hn
          refine CW.exit (CW.at [Y 0 (str s), Y 2 (.pointer (some ⟨b2, 0, none⟩)), Y 8 (str ((Eng.sub (s) ((wholeR (s)).1) ((wholeR (s)).2.1)) ++ (Eng.sub (s) (((wholeR (s)).2.1) + (1)) (runTo (s) (((wholeR (s)).2.1) + (1)))))), Y 9 (i64 ((((wholeR (s)).2.1) + (1)) - (runTo (s) (((wholeR (s)).2.1) + (1))))), Y 11 (i64 ((powerR (s) (runTo (s) (((wholeR (s)).2.1) + (1)))).1)), Y 14 (i64 n)] rfl ?_)
          refine CW.sr ?_
          refine RL.m rfl rfl (RL.u (.idxS (.t rfl) .c Tryz.underlying9 (fun _ => by first | omega | (rw [len_app]; omega))) rfl (RL.u (.eql (.t rfl) .c) rfl (RL.m rfl rfl (RL.m rfl rfl (RL.m rfl rfl ?_)))))
          refine RL.m rfl rfl (RL.u (.mul (.t rfl) (.t rfl) (fun _ => by first | omega | (rw [len_app]; omega))) rfl (RL.u (.add (.t rfl) (.t rfl) (fun _ => by first | omega | (rw [len_app]; omega))) rfl ?_))
          refine RL.callE hS15 .none Tryz.call99 (.cons (.t rfl) (.cons (.t rfl) (.cons (.t rfl) .nil))) (fun _ => (make1_c ((byteAt (s) (0)) == (45)) ((Eng.sub (s) ((wholeR (s)).1) ((wholeR (s)).2.1)) ++ (Eng.sub (s) (((wholeR (s)).2.1) + (1)) (runTo (s) (((wholeR (s)).2.1) + (1))))) (((((wholeR (s)).2.1) + (1)) - (runTo (s) (((wholeR (s)).2.1) + (1)))) + (((powerR (s) (runTo (s) (((wholeR (s)).2.1) + (1)))).1) * (n))) _ (by first | omega | (rw [len_app]; omega)))) rfl (fun w16 hS17 => ?_)
          refine RL.m rfl rfl (RL.u (.ex (.t rfl) rfl) rfl (RL.u (.ex (.t rfl) rfl) rfl ?_))
          refine RL.alloc hS17 Tryz.zeroValue31 rfl (fun w18 b19 hS20 => ?_)
          replace hS20 : St w (fun _ _ => none) w18 (fun _ _ => none) [.box b19 [(i64 0), (i64 0), (str []), (str []), (.bool false), (i64 0)] 31, .box b2 [(i64 0), (i64 0), (str []), (str []), (.bool false), (i64 0)] 31] := hS20
          refine RL.st hS20 (i := 0) rfl (.t rfl) (.t rfl) Tryz.sizeOf31 rfl rfl rfl (Hs' := [.box b19 (ndC ((mk1 ((byteAt (s) (0)) == (45)) ((Eng.sub (s) ((wholeR (s)).1) ((wholeR (s)).2.1)) ++ (Eng.sub (s) (((wholeR (s)).2.1) + (1)) (runTo (s) (((wholeR (s)).2.1) + (1))))) (((((wholeR (s)).2.1) + (1)) - (runTo (s) (((wholeR (s)).2.1) + (1)))) + (((powerR (s) (runTo (s) (((wholeR (s)).2.1) + (1)))).1) * (n)))).1) []) 31, .box b2 [(i64 0), (i64 0), (str []), (str []), (.bool false), (i64 0)] 31]) rfl rfl (fun w21 hS22 => ?_)
          refine RL.a rfl rfl ?_
          refine RL.nil (CW.at [Y 2 (.pointer (some ⟨b2, 0, none⟩)), Y 16 (.pointer (some ⟨b19, 0, none⟩)), Y 17 (i64 ((mk1 ((byteAt (s) (0)) == (45)) ((Eng.sub (s) ((wholeR (s)).1) ((wholeR (s)).2.1)) ++ (Eng.sub (s) (((wholeR (s)).2.1) + (1)) (runTo (s) (((wholeR (s)).2.1) + (1))))) (((((wholeR (s)).2.1) + (1)) - (runTo (s) (((wholeR (s)).2.1) + (1)))) + (((powerR (s) (runTo (s) (((wholeR (s)).2.1) + (1)))).1) * (n)))).2))] rfl ?_)
          refine CW.sr ?_
          refine RL.u (.loadBN (vs := (ndC ((mk1 ((byteAt (s) (0)) == (45)) ((Eng.sub (s) ((wholeR (s)).1) ((wholeR (s)).2.1)) ++ (Eng.sub (s) (((wholeR (s)).2.1) + (1)) (runTo (s) (((wholeR (s)).2.1) + (1))))) (((((wholeR (s)).2.1) + (1)) - (runTo (s) (((wholeR (s)).2.1) + (1)))) + (((powerR (s) (runTo (s) (((wholeR (s)).2.1) + (1)))).1) * (n)))).1) [])) hS22 extEq (i := 0) rfl (.t rfl) Tryz.isAgg31 Tryz.sizeOf31 rfl rfl) rfl (RL.m rfl rfl ?_)
          refine RL.st hS22 (i := 1) rfl (.t rfl) (.t rfl) Tryz.sizeOf31 rfl rfl rfl (Hs' := [.box b19 (ndC ((mk1 ((byteAt (s) (0)) == (45)) ((Eng.sub (s) ((wholeR (s)).1) ((wholeR (s)).2.1)) ++ (Eng.sub (s) (((wholeR (s)).2.1) + (1)) (runTo (s) (((wholeR (s)).2.1) + (1))))) (((((wholeR (s)).2.1) + (1)) - (runTo (s) (((wholeR (s)).2.1) + (1)))) + (((powerR (s) (runTo (s) (((wholeR (s)).2.1) + (1)))).1) * (n)))).1) []) 31, .box b2 (ndC ((mk1 ((byteAt (s) (0)) == (45)) ((Eng.sub (s) ((wholeR (s)).1) ((wholeR (s)).2.1)) ++ (Eng.sub (s) (((wholeR (s)).2.1) + (1)) (runTo (s) (((wholeR (s)).2.1) + (1))))) (((((wholeR (s)).2.1) + (1)) - (runTo (s) (((wholeR (s)).2.1) + (1)))) + (((powerR (s) (runTo (s) (((wholeR (s)).2.1) + (1)))).1) * (n)))).1) []) 31]) rfl rfl (fun w23 hS24 => ?_)
          refine RL.u (.assign .c) rfl (RL.a rfl rfl ?_)
          refine RL.nil (CW.at [Y 2 (.pointer (some ⟨b2, 0, none⟩)), Y 3 (i64 0), Y 4 (i64 ((mk1 ((byteAt (s) (0)) == (45)) ((Eng.sub (s) ((wholeR (s)).1) ((wholeR (s)).2.1)) ++ (Eng.sub (s) (((wholeR (s)).2.1) + (1)) (runTo (s) (((wholeR (s)).2.1) + (1))))) (((((wholeR (s)).2.1) + (1)) - (runTo (s) (((wholeR (s)).2.1) + (1)))) + (((powerR (s) (runTo (s) (((wholeR (s)).2.1) + (1)))).1) * (n)))).2))] rfl ?_)
          refine CW.ret (retR3 (P := Tryz.prog) (fn := Tryz.f69) (R := fun e w' => e = .returned (.tuple #[(ndV ((read1 s).1)), (i64 ((read1 s).2.1)), (i64 ((read1 s).2.2))]) ∧ Ext w w') rfl (.boxN hS24 (i := 1) rfl rfl Tryz.isAgg31 Tryz.sizeOf31) (show RV _ _ _ (.tmp _) _ from rfl) (show RV _ _ _ (.tmp _) _ from rfl) ?_)
          have hq : read1 s = ((mk1 ((byteAt (s) (0)) == (45)) ((Eng.sub (s) ((wholeR (s)).1) ((wholeR (s)).2.1)) ++ (Eng.sub (s) (((wholeR (s)).2.1) + (1)) (runTo (s) (((wholeR (s)).2.1) + (1))))) (((((wholeR (s)).2.1) + (1)) - (runTo (s) (((wholeR (s)).2.1) + (1)))) + (((powerR (s) (runTo (s) (((wholeR (s)).2.1) + (1)))).1) * (n)))).1, 0, (mk1 ((byteAt (s) (0)) == (45)) ((Eng.sub (s) ((wholeR (s)).1) ((wholeR (s)).2.1)) ++ (Eng.sub (s) (((wholeR (s)).2.1) + (1)) (runTo (s) (((wholeR (s)).2.1) + (1))))) (((((wholeR (s)).2.1) + (1)) - (runTo (s) (((wholeR (s)).2.1) + (1)))) + (((powerR (s) (runTo (s) (((wholeR (s)).2.1) + (1)))).1) * (n)))).2) := by
           rw [← readR_eq]
           unfold readR expR
           dsimp only
           rw [if_neg (by first | assumption | omega | (simp_all; done) | grind), if_pos (by first | assumption | omega | (simp_all; done) | grind), if_neg (by first | assumption | omega | (simp_all; done) | grind), if_neg (by first | assumption | omega | (simp_all; done) | grind), if_neg (by first | assumption | omega | (simp_all; done) | grind)]
           rw [hn]
           try rfl
          rw [hq]; exact ⟨rfl, hS24.low⟩
  ·try simp only [zb] at hb2
   have hpb := powerR_bd (s := s) (i := (wholeR s).2.1) (by omega) (by omega)
   refine CW.skip (CW.at [Y 0 (str s), Y 2 (.pointer (some ⟨b2, 0, none⟩)), Y 8 (str (Eng.sub (s) ((wholeR (s)).1) ((wholeR (s)).2.1))), Y 9 (i64 0), Y 10 (i64 ((wholeR (s)).2.1))] rfl ?_)
   refine CW.sr ?_
   refine RL.m rfl rfl (RL.m rfl rfl ?_)
   refine RL.callE hS3 .none Tryz.call98 (.cons (.t rfl) (.cons (.t rfl) .nil)) (fun _ => (power_c (s) ((wholeR (s)).2.1) _ (by omega) (by omega) (by omega))) rfl (fun w25 hS26 => ?_)
   refine RL.m rfl rfl (RL.u (.ex (.t rfl) rfl) rfl (RL.u (.ex (.t rfl) rfl) rfl (RL.u (.ex (.t rfl) rfl) rfl (RL.a rfl rfl (RL.a rfl rfl ?_)))))
   refine RL.a rfl rfl ?_
   refine RL.nil (CW.at [Y 0 (str s), Y 2 (.pointer (some ⟨b2, 0, none⟩)), Y 8 (str (Eng.sub (s) ((wholeR (s)).1) ((wholeR (s)).2.1))), Y 9 (i64 0), Y 11 (i64 ((powerR (s) ((wholeR (s)).2.1)).1)), Y 12 (str ((powerR (s) ((wholeR (s)).2.1)).2.1)), Y 13 (i64 ((powerR (s) ((wholeR (s)).2.1)).2.2))] rfl ?_)
   refine CW.seq ?_
   refine CW.sr ?_
   refine RL.m rfl rfl (RL.m rfl rfl (RL.u (.lenS (.t rfl) Tryz.underlying9) rfl (RL.u (.lss (.t rfl) (.t rfl)) rfl (RL.m rfl rfl (RL.v (.neg rfl rfl) (.move (.t rfl)) rfl ?_)))))
   refine RL.v (.neg rfl rfl) (.neq (.g rfl (fun h => h)) .c) rfl (RL.v (.neg rfl rfl) (.move (.g rfl (fun h => h))) rfl (RL.v (.posG rfl rfl) (.move (.t rfl)) rfl (RL.v (.posG rfl rfl) (.seql (.g rfl (fun h => h)) .c) rfl (RL.v (.neg rfl rfl) (.and (.g rfl (fun h => h)) (.g rfl (fun h => h))) rfl (RL.u (.or (.t rfl) (.g rfl (fun h => h))) rfl ?_)))))
   refine RL.nil (CW.at [Y 0 (str s), Y 2 (.pointer (some ⟨b2, 0, none⟩)), Y 8 (str (Eng.sub (s) ((wholeR (s)).1) ((wholeR (s)).2.1))), Y 9 (i64 0), Y 11 (i64 ((powerR (s) ((wholeR (s)).2.1)).1)), Y 12 (str ((powerR (s) ((wholeR (s)).2.1)).2.1)), Y 13 (i64 ((powerR (s) ((wholeR (s)).2.1)).2.2)), Y 82 (.bool ((decide (((powerR (s) ((wholeR (s)).2.1)).2.2) < (len (s)))) || ((((powerR (s) ((wholeR (s)).2.1)).1) != (0)) && (((powerR (s) ((wholeR (s)).2.1)).2.1) == ([])))))] rfl ?_)
   refine CW.cond rfl (fun hb8 => ?_) (fun hb8 => ?_)
   ·try simp only [zb] at hb8
    refine CW.sr ?_
    refine RL.u (.build (vs := []) (v := (.agg #[(i64 0), (i64 0), (str []), (str []), (.bool false), (i64 0)])) .nil (fun w => by kernel_rfl)) rfl (RL.m rfl rfl ?_)
    refine RL.st hS26 (i := 0) rfl (.t rfl) (.t rfl) Tryz.sizeOf31 rfl rfl rfl (Hs' := [.box b2 [(i64 0), (i64 0), (str []), (str []), (.bool false), (i64 0)] 31]) rfl rfl (fun w27 hS28 => ?_)
    refine RL.a rfl rfl (RL.u (.assign .c) rfl ?_)
    refine RL.nil (CW.at [Y 2 (.pointer (some ⟨b2, 0, none⟩)), Y 3 (i64 ((powerR (s) ((wholeR (s)).2.1)).2.2)), Y 4 (i64 1)] rfl ?_)
    refine CW.ret (retR3 (P := Tryz.prog) (fn := Tryz.f69) (R := fun e w' => e = .returned (.tuple #[(ndV ((read1 s).1)), (i64 ((read1 s).2.1)), (i64 ((read1 s).2.2))]) ∧ Ext w w') rfl (.boxN hS28 (i := 0) rfl rfl Tryz.isAgg31 Tryz.sizeOf31) (show RV _ _ _ (.tmp _) _ from rfl) (show RV _ _ _ (.tmp _) _ from rfl) ?_)
    have hq : read1 s = (⟨0, 0, [], [], false, 0⟩, (powerR (s) ((wholeR (s)).2.1)).2.2, 1) := by
     rw [← readR_eq]
     unfold readR expR
     dsimp only
     rw [if_neg (by first | assumption | omega | (simp_all; done) | grind), if_neg (by first | assumption | omega | (simp_all; done) | grind), if_pos (by first | assumption | omega | (simp_all; done) | grind)]
     try rfl
    rw [hq]; exact ⟨rfl, hS28.low⟩
   ·try simp only [zb] at hb8
    refine CW.skip (CW.at [Y 0 (str s), Y 2 (.pointer (some ⟨b2, 0, none⟩)), Y 8 (str (Eng.sub (s) ((wholeR (s)).1) ((wholeR (s)).2.1))), Y 9 (i64 0), Y 11 (i64 ((powerR (s) ((wholeR (s)).2.1)).1)), Y 12 (str ((powerR (s) ((wholeR (s)).2.1)).2.1))] rfl ?_)
    refine CW.seq ?_
    refine CW.block ?_
    refine CW.loop (σ := Str) (fun t => [Y 0 (str s), Y 2 (.pointer (some ⟨b2, 0, none⟩)), Y 8 (str (Eng.sub (s) ((wholeR (s)).1) ((wholeR (s)).2.1))), Y 9 (i64 0), Y 11 (i64 ((powerR (s) ((wholeR (s)).2.1)).1)), Y 12 (str t)]) (fun t wl => St w (fun _ _ => none) wl (fun _ _ => none) [.box b2 [(i64 0), (i64 0), (str []), (str []), (.bool false), (i64 0)] 31] ∧ dropZ t = dropZ ((powerR (s) ((wholeR (s)).2.1)).2.1) ∧ len t ≤ len ((powerR (s) ((wholeR (s)).2.1)).2.1)) (fun t => t.length) ((powerR (s) ((wholeR (s)).2.1)).2.1) [0, 2, 8, 9, 11, 12] rfl ?_ ?_
    ·refine ⟨hS26, ?_⟩; exact ⟨rfl, Int.le_refl _⟩
    ·rintro t wl ⟨hS29, hF, hl⟩
     have hbt := byteAt_bd t 0
     have hlt := len_nonneg t
     have hfl := from_bd t 1
     refine CW.seq ?_
     refine CW.sr ?_
     refine RL.m rfl rfl (RL.u (.lenS (.t rfl) Tryz.underlying9) rfl (RL.u (.gtr (.t rfl) .c) rfl (RL.m rfl rfl (RL.v (.pos rfl rfl) (.move (.t rfl)) rfl (RL.v (.pos rfl rfl) (.idxS (.g rfl (fun h => h)) .c Tryz.underlying9 (fun hW => by simp only [zb] at hW; first | omega | (rw [len_app]; omega))) rfl ?_)))))
     refine RL.v (.pos rfl rfl) (.eql (.g rfl (fun h => h)) .c) rfl (RL.u (.and (.t rfl) (.g rfl (fun h => h))) rfl ?_)
     refine RL.nil (CW.at [Y 0 (str s), Y 2 (.pointer (some ⟨b2, 0, none⟩)), Y 8 (str (Eng.sub (s) ((wholeR (s)).1) ((wholeR (s)).2.1))), Y 9 (i64 0), Y 11 (i64 ((powerR (s) ((wholeR (s)).2.1)).1)), Y 12 (str t), Y 92 (.bool ((decide ((0) < (len (t)))) && ((byteAt (t) (0)) == (48))))] rfl ?_)
     refine CW.cond rfl (fun hb9 => ?_) (fun hb9 => ?_)
     ·try simp only [zb] at hb9
      refine CW.skip (CW.at [Y 0 (str s), Y 2 (.pointer (some ⟨b2, 0, none⟩)), Y 8 (str (Eng.sub (s) ((wholeR (s)).1) ((wholeR (s)).2.1))), Y 9 (i64 0), Y 11 (i64 ((powerR (s) ((wholeR (s)).2.1)).1)), Y 12 (str t)] rfl ?_)
      refine CW.block ?_
      refine CW.region ?_
      refine RL.m rfl rfl (RL.u (.slSl (.t rfl) .c Tryz.underlying9 (fun _ => by first | omega | (rw [len_app]; omega))) rfl (RL.a rfl rfl ?_))
      refine RL.nil fun a hs => Exists.intro (Eng.from' t 1) ⟨hs.keep [0, 2, 8, 9, 11, 12], ?_, ?_⟩
      ·refine ⟨hS29, ?_⟩
       exact ⟨by rw [dropZ_step (by assumption), hF], by omega⟩
      ·show List.length _ < List.length _; have := from_len t 1 (by omega) (by omega); unfold len at *; omega
     ·try simp only [zb] at hb9
      have ht : t = dropZ (powerR s ((wholeR s).2.1)).2.1 := by rw [← hF, dropZ_stop (by rintro ⟨h1, h2⟩; rcases hb9 with h | h; exact h h1; exact h h2)]
      have htf : ∀ b ∈ t, isFigB b = true := by rw [ht]; exact figs_drop hpb.2.2.2
      refine CW.exit (CW.at [Y 0 (str s), Y 2 (.pointer (some ⟨b2, 0, none⟩)), Y 8 (str (Eng.sub (s) ((wholeR (s)).1) ((wholeR (s)).2.1))), Y 9 (i64 0), Y 11 (i64 ((powerR (s) ((wholeR (s)).2.1)).1)), Y 12 (str t)] rfl ?_)
      refine CW.seq ?_
      refine CW.sr ?_
      refine RL.m rfl rfl (RL.u (.lenS (.t rfl) Tryz.underlying9) rfl (RL.u (.gtr (.t rfl) .c) rfl ?_))
      refine RL.nil (CW.at [Y 0 (str s), Y 2 (.pointer (some ⟨b2, 0, none⟩)), Y 8 (str (Eng.sub (s) ((wholeR (s)).1) ((wholeR (s)).2.1))), Y 9 (i64 0), Y 11 (i64 ((powerR (s) ((wholeR (s)).2.1)).1)), Y 12 (str t), Y 97 (.bool (decide ((6) < (len (t)))))] rfl ?_)
      refine CW.cond rfl (fun hb10 => ?_) (fun hb10 => ?_)
      ·try simp only [zb] at hb10
       refine CW.sr ?_
       refine RL.u (.build (vs := []) (v := (.agg #[(i64 0), (i64 0), (str []), (str []), (.bool false), (i64 0)])) .nil (fun w => by kernel_rfl)) rfl ?_
       refine RL.st hS29 (i := 0) rfl (.t rfl) (.t rfl) Tryz.sizeOf31 rfl rfl rfl (Hs' := [.box b2 [(i64 0), (i64 0), (str []), (str []), (.bool false), (i64 0)] 31]) rfl rfl (fun w30 hS31 => ?_)
       refine RL.u (.assign .c) rfl (RL.u (.assign .c) rfl ?_)
       refine RL.nil (CW.at [Y 2 (.pointer (some ⟨b2, 0, none⟩)), Y 3 (i64 0), Y 4 (i64 2)] rfl ?_)
       refine CW.ret (retR3 (P := Tryz.prog) (fn := Tryz.f69) (R := fun e w' => e = .returned (.tuple #[(ndV ((read1 s).1)), (i64 ((read1 s).2.1)), (i64 ((read1 s).2.2))]) ∧ Ext w w') rfl (.boxN hS31 (i := 0) rfl rfl Tryz.isAgg31 Tryz.sizeOf31) (show RV _ _ _ (.tmp _) _ from rfl) (show RV _ _ _ (.tmp _) _ from rfl) ?_)
       have hq : read1 s = (⟨0, 0, [], [], false, 0⟩, 0, 2) := by
        rw [← readR_eq]
        unfold readR expR
        dsimp only
        rw [if_neg (by first | assumption | omega | (simp_all; done) | grind), if_neg (by first | assumption | omega | (simp_all; done) | grind), if_neg (by first | assumption | omega | (simp_all; done) | grind), if_pos (by first | assumption | omega | (simp_all; done) | grind)]
        try rfl
       rw [hq]; exact ⟨rfl, hS31.low⟩
      ·try simp only [zb] at hb10
       refine CW.skip (CW.at [Y 0 (str s), Y 2 (.pointer (some ⟨b2, 0, none⟩)), Y 8 (str (Eng.sub (s) ((wholeR (s)).1) ((wholeR (s)).2.1))), Y 9 (i64 0), Y 11 (i64 ((powerR (s) ((wholeR (s)).2.1)).1)), Y 12 (str t)] rfl ?_)
       refine CW.sr ?_
       refine RL.u (.assign .c) rfl ?_
       refine RL.nil (CW.at [Y 0 (str s), Y 2 (.pointer (some ⟨b2, 0, none⟩)), Y 8 (str (Eng.sub (s) ((wholeR (s)).1) ((wholeR (s)).2.1))), Y 9 (i64 0), Y 11 (i64 ((powerR (s) ((wholeR (s)).2.1)).1)), Y 12 (str t), Y 14 (i64 0)] rfl ?_)
       refine CW.seq ?_
       refine CW.sr ?_
       refine RL.u (.assign .c) rfl ?_
       refine RL.nil (CW.at [Y 0 (str s), Y 2 (.pointer (some ⟨b2, 0, none⟩)), Y 8 (str (Eng.sub (s) ((wholeR (s)).1) ((wholeR (s)).2.1))), Y 9 (i64 0), Y 11 (i64 ((powerR (s) ((wholeR (s)).2.1)).1)), Y 12 (str t), Y 14 (i64 0), Y 15 (i64 0)] rfl ?_)
       refine CW.block ?_
       refine CW.loop (σ := Int × Int) (fun (n, k) => [Y 0 (str s), Y 2 (.pointer (some ⟨b2, 0, none⟩)), Y 8 (str (Eng.sub (s) ((wholeR (s)).1) ((wholeR (s)).2.1))), Y 9 (i64 0), Y 11 (i64 ((powerR (s) ((wholeR (s)).2.1)).1)), Y 12 (str t), Y 14 (i64 n), Y 15 (i64 k)]) (fun (n, k) wl => St w (fun _ _ => none) wl (fun _ _ => none) [.box b2 [(i64 0), (i64 0), (str []), (str []), (.bool false), (i64 0)] 31] ∧ 0 ≤ k ∧ k ≤ len t ∧ n = decVal (Eng.sub t 0 k)) (fun (n, k) => (len t - k).toNat) ((0, 0)) [0, 2, 8, 9, 11, 12, 14, 15] rfl ?_ ?_
       ·refine ⟨hS29, ?_⟩; exact ⟨by omega, by omega, rfl⟩
       ·rintro ⟨n, k⟩ wl ⟨hS32, hk0, hk1, hn⟩
        have hfk := fun h => figs_at htf hk0 (k := k) h
        have hnb := dec_bd6 htf (by omega) k
        rw [← hn] at hnb
        have hsn := side_bd hpb.1.1 hpb.1.2 hnb.1 hnb.2
        refine CW.seq ?_
        refine CW.sr ?_
        refine RL.m rfl rfl (RL.m rfl rfl (RL.u (.lenS (.t rfl) Tryz.underlying9) rfl (RL.u (.lss (.t rfl) (.t rfl)) rfl ?_)))
        refine RL.nil (CW.at [Y 0 (str s), Y 2 (.pointer (some ⟨b2, 0, none⟩)), Y 8 (str (Eng.sub (s) ((wholeR (s)).1) ((wholeR (s)).2.1))), Y 9 (i64 0), Y 11 (i64 ((powerR (s) ((wholeR (s)).2.1)).1)), Y 12 (str t), Y 14 (i64 n), Y 15 (i64 k), Y 102 (.bool (decide ((k) < (len (t)))))] rfl ?_)
        refine CW.cond rfl (fun hb11 => ?_) (fun hb11 => ?_)
        ·try simp only [zb] at hb11
         refine CW.skip (CW.at [Y 0 (str s), Y 2 (.pointer (some ⟨b2, 0, none⟩)), Y 8 (str (Eng.sub (s) ((wholeR (s)).1) ((wholeR (s)).2.1))), Y 9 (i64 0), Y 11 (i64 ((powerR (s) ((wholeR (s)).2.1)).1)), Y 12 (str t), Y 14 (i64 n), Y 15 (i64 k)] rfl ?_)
         refine CW.seq ?_
         refine CW.block ?_
         refine CW.region ?_
         refine RL.m rfl rfl (RL.u (.mul (.t rfl) .c (fun _ => by first | omega | (rw [len_app]; omega))) rfl (RL.m rfl rfl (RL.m rfl rfl (RL.u (.idxS (.t rfl) (.t rfl) Tryz.underlying9 (fun _ => by first | omega | (rw [len_app]; omega))) rfl (RL.u (.subK (r := (byteAt (t) (k)) - (48)) (.t rfl) .c (fun _ => by exact Eng.wrap_u8 (by omega))) rfl ?_)))))
         refine RL.u (.cvtK (r := (byteAt (t) (k)) - (48)) (.t rfl) Tryz.underlying5 Tryz.underlying3 (fun _ => by exact Eng.wrap_i64 (by omega))) rfl (RL.u (.add (.t rfl) (.t rfl) (fun _ => by first | omega | (rw [len_app]; omega))) rfl (RL.a rfl rfl ?_))
         refine RL.nil (CW.at [Y 0 (str s), Y 2 (.pointer (some ⟨b2, 0, none⟩)), Y 8 (str (Eng.sub (s) ((wholeR (s)).1) ((wholeR (s)).2.1))), Y 9 (i64 0), Y 11 (i64 ((powerR (s) ((wholeR (s)).2.1)).1)), Y 12 (str t), Y 14 (i64 (((n) * (10)) + ((byteAt (t) (k)) - (48)))), Y 15 (i64 k)] rfl ?_)
         refine CW.region ?_
         refine RL.m rfl rfl (RL.u (.add (.t rfl) .c (fun _ => by first | omega | (rw [len_app]; omega))) rfl (RL.a rfl rfl ?_))
         refine RL.nil fun a hs => Exists.intro ((n * 10 + (byteAt t k - 48), k + 1)) ⟨hs.keep [0, 2, 8, 9, 11, 12, 14, 15], ?_, ?_⟩
         ·refine ⟨hS32, ?_⟩
          exact ⟨by omega, by omega, by rw [dec_step hk0 (by omega), ← hn]⟩
         ·show Int.toNat _ < Int.toNat _; omega
        ·try simp only [zb] at hb11
         have hk : k = len t := by omega
         rw [hk, sub_all t (len t) (Int.le_refl _), ht] at hn
         refine CW.exit (CW.at [Y 0 (str s), Y 2 (.pointer (some ⟨b2, 0, none⟩)), Y 8 (str (Eng.sub (s) ((wholeR (s)).1) ((wholeR (s)).2.1))), Y 9 (i64 0), Y 11 (i64 ((powerR (s) ((wholeR (s)).2.1)).1)), Y 14 (i64 n)] rfl ?_)
         refine CW.sr ?_
         refine RL.m rfl rfl (RL.u (.idxS (.t rfl) .c Tryz.underlying9 (fun _ => by first | omega | (rw [len_app]; omega))) rfl (RL.u (.eql (.t rfl) .c) rfl (RL.m rfl rfl (RL.m rfl rfl (RL.m rfl rfl ?_)))))
         refine RL.m rfl rfl (RL.u (.mul (.t rfl) (.t rfl) (fun _ => by first | omega | (rw [len_app]; omega))) rfl (RL.u (.add (.t rfl) (.t rfl) (fun _ => by first | omega | (rw [len_app]; omega))) rfl ?_))
         refine RL.callE hS32 .none Tryz.call99 (.cons (.t rfl) (.cons (.t rfl) (.cons (.t rfl) .nil))) (fun _ => (make1_c ((byteAt (s) (0)) == (45)) (Eng.sub (s) ((wholeR (s)).1) ((wholeR (s)).2.1)) ((0) + (((powerR (s) ((wholeR (s)).2.1)).1) * (n))) _ (by first | omega | (rw [len_app]; omega)))) rfl (fun w33 hS34 => ?_)
         refine RL.m rfl rfl (RL.u (.ex (.t rfl) rfl) rfl (RL.u (.ex (.t rfl) rfl) rfl ?_))
         refine RL.alloc hS34 Tryz.zeroValue31 rfl (fun w35 b36 hS37 => ?_)
         replace hS37 : St w (fun _ _ => none) w35 (fun _ _ => none) [.box b36 [(i64 0), (i64 0), (str []), (str []), (.bool false), (i64 0)] 31, .box b2 [(i64 0), (i64 0), (str []), (str []), (.bool false), (i64 0)] 31] := hS37
         refine RL.st hS37 (i := 0) rfl (.t rfl) (.t rfl) Tryz.sizeOf31 rfl rfl rfl (Hs' := [.box b36 (ndC ((mk1 ((byteAt (s) (0)) == (45)) (Eng.sub (s) ((wholeR (s)).1) ((wholeR (s)).2.1)) ((0) + (((powerR (s) ((wholeR (s)).2.1)).1) * (n)))).1) []) 31, .box b2 [(i64 0), (i64 0), (str []), (str []), (.bool false), (i64 0)] 31]) rfl rfl (fun w38 hS39 => ?_)
         refine RL.a rfl rfl ?_
         refine RL.nil (CW.at [Y 2 (.pointer (some ⟨b2, 0, none⟩)), Y 16 (.pointer (some ⟨b36, 0, none⟩)), Y 17 (i64 ((mk1 ((byteAt (s) (0)) == (45)) (Eng.sub (s) ((wholeR (s)).1) ((wholeR (s)).2.1)) ((0) + (((powerR (s) ((wholeR (s)).2.1)).1) * (n)))).2))] rfl ?_)
         refine CW.sr ?_
         refine RL.u (.loadBN (vs := (ndC ((mk1 ((byteAt (s) (0)) == (45)) (Eng.sub (s) ((wholeR (s)).1) ((wholeR (s)).2.1)) ((0) + (((powerR (s) ((wholeR (s)).2.1)).1) * (n)))).1) [])) hS39 extEq (i := 0) rfl (.t rfl) Tryz.isAgg31 Tryz.sizeOf31 rfl rfl) rfl (RL.m rfl rfl ?_)
         refine RL.st hS39 (i := 1) rfl (.t rfl) (.t rfl) Tryz.sizeOf31 rfl rfl rfl (Hs' := [.box b36 (ndC ((mk1 ((byteAt (s) (0)) == (45)) (Eng.sub (s) ((wholeR (s)).1) ((wholeR (s)).2.1)) ((0) + (((powerR (s) ((wholeR (s)).2.1)).1) * (n)))).1) []) 31, .box b2 (ndC ((mk1 ((byteAt (s) (0)) == (45)) (Eng.sub (s) ((wholeR (s)).1) ((wholeR (s)).2.1)) ((0) + (((powerR (s) ((wholeR (s)).2.1)).1) * (n)))).1) []) 31]) rfl rfl (fun w40 hS41 => ?_)
         refine RL.u (.assign .c) rfl (RL.a rfl rfl ?_)
         refine RL.nil (CW.at [Y 2 (.pointer (some ⟨b2, 0, none⟩)), Y 3 (i64 0), Y 4 (i64 ((mk1 ((byteAt (s) (0)) == (45)) (Eng.sub (s) ((wholeR (s)).1) ((wholeR (s)).2.1)) ((0) + (((powerR (s) ((wholeR (s)).2.1)).1) * (n)))).2))] rfl ?_)
         refine CW.ret (retR3 (P := Tryz.prog) (fn := Tryz.f69) (R := fun e w' => e = .returned (.tuple #[(ndV ((read1 s).1)), (i64 ((read1 s).2.1)), (i64 ((read1 s).2.2))]) ∧ Ext w w') rfl (.boxN hS41 (i := 1) rfl rfl Tryz.isAgg31 Tryz.sizeOf31) (show RV _ _ _ (.tmp _) _ from rfl) (show RV _ _ _ (.tmp _) _ from rfl) ?_)
         have hq : read1 s = ((mk1 ((byteAt (s) (0)) == (45)) (Eng.sub (s) ((wholeR (s)).1) ((wholeR (s)).2.1)) ((0) + (((powerR (s) ((wholeR (s)).2.1)).1) * (n)))).1, 0, (mk1 ((byteAt (s) (0)) == (45)) (Eng.sub (s) ((wholeR (s)).1) ((wholeR (s)).2.1)) ((0) + (((powerR (s) ((wholeR (s)).2.1)).1) * (n)))).2) := by
          rw [← readR_eq]
          unfold readR expR
          dsimp only
          rw [if_neg (by first | assumption | omega | (simp_all; done) | grind), if_neg (by first | assumption | omega | (simp_all; done) | grind), if_neg (by first | assumption | omega | (simp_all; done) | grind), if_neg (by first | assumption | omega | (simp_all; done) | grind)]
          rw [hn]
          try rfl
         rw [hq]; exact ⟨rfl, hS41.low⟩

end Go.Proofs.YthdialbnlnjgpaaGreatDoor
