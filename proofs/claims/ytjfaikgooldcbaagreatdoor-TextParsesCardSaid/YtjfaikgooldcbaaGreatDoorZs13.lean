/-
  The reference's parser: has, bad, number.
  VALUES AS TREES, and the plain form of the printer. No program in it.
-/
import Derived.Test.YtjfaikgooldcbaaGreatDoorZs4
import Derived.Laws.BitsLemmas
import Derived.Test.YtjfaikgooldcbaaGreatDoorZs3
import Derived.Test.YtjfaikgooldcbaaGreatDoorProg
import Derived.Test.YtjfaikgooldcbaaGreatDoorZs12
import Derived.Test.YtjfaikgooldcbaaGreatDoorZs8
import Derived.Test.YtjfaikgooldcbaaGreatDoorZs9
import Derived.Test.YtjfaikgooldcbaaGreatDoorZs11
import Derived.Test.YtjfaikgooldcbaaGreatDoorZs10
set_option linter.unusedVariables false
set_option linter.unusedSimpArgs false
set_option maxRecDepth 100000
namespace Go.Proofs.YtjfaikgooldcbaaGreatDoor
open Go.Eng

/- loupe/louperef01.whole -/
theorem whole_c (s : Str) (w : World) (hb : len s ≤ 1099511627776) :
  Calls Tryz.prog 108 [(str s)].toArray w fun e w' => e = .returned (.tuple #[(i64 ((wholeR s).1)), (i64 ((wholeR s).2.1)), (.bool ((wholeR s).2.2))]) ∧ w' = w := by
 refine CW.enter1 Tryz.func108 rfl Tryz.ntmps108 (Nat.le_of_ble_eq_true rfl) fun Q hE => ?_
 have := len_nonneg s
 have hr0 := runTo_bd s 0
 have hr1 := runTo_bd s 1
 refine CW.weaken [0] (L' := [Y 0 (str s)]) ?_ rfl
 refine CW.sr (RL.u (.assign .c) rfl (RL.u (.assign .c) rfl (RL.u (.assign .c) rfl (RL.nil (CW.id (CW.sr ?_))))))
 refine RL.u (.assign .c) rfl (RL.nil (CW.id ?_))
 refine CW.seq (CW.sr (RL.m rfl rfl (RL.u (.lenS (.t rfl) Tryz.underlying9) rfl (RL.u (.gtr (.t rfl) .c) rfl (RL.m rfl rfl (RL.v (.pos rfl rfl) (.move (.t rfl)) rfl (RL.v (.pos rfl rfl) (.idxS (.g rfl (fun h => h)) .c Tryz.underlying9 (fun hW => by simp only [zb] at hW; omega)) rfl (RL.v (.pos rfl rfl) (.eql (.g rfl (fun h => h)) .c) rfl (RL.u (.and (.t rfl) (.g rfl (fun h => h))) rfl (RL.nil (CW.id ?_)))))))))))
 refine CW.cond rfl ?_ ?_ <;> intro hb1 <;> try simp only [zb] at hb1
 ·refine CW.region (RL.u (.assign .c) rfl (RL.nil (CW.id (CW.sr ?_))))
  refine RL.m rfl rfl (RL.m rfl rfl ?_)
  refine RL.callS .none Tryz.call109 (.cons (.t rfl) (.cons (.t rfl) .nil)) (fun _ => (run1_c s 1 _ (by omega) (by omega) (by omega))) rfl ?_
  refine RL.a rfl rfl ?_
  refine RL.nil (CW.at [Y 0 (str s), Y 5 (i64 1), Y 6 (i64 (runTo s 1))] rfl (CW.seq (CW.sr (RL.m rfl rfl (RL.m rfl rfl (RL.u (.eql (.t rfl) (.t rfl)) rfl (RL.nil (CW.id ?_))))))))
  refine CW.cond rfl ?_ ?_ <;> intro hb2 <;> try simp only [zb] at hb2
  ·refine CW.sr (RL.m rfl rfl (RL.m rfl rfl (RL.a rfl rfl (RL.a rfl rfl (RL.u (.assign .c) rfl (RL.nil (CW.id (CW.ret (hE.r3 rfl rfl rfl rfl ?_)))))))))
   clear hE
   have hq : wholeR s = (1, 1, false) := by
    unfold wholeR
    (try dsimp only)
    (repeat' split)
    all_goals first | rfl | (exfalso; omega) | (exfalso; simp_all; done) | (simp_all; done) | (exfalso; simp_all; omega)
   rw [hq]; exact ⟨rfl, rfl⟩
  ·refine CW.skip (CW.id (CW.seq (CW.sr (RL.m rfl rfl (RL.m rfl rfl (RL.u (.idxS (.t rfl) (.t rfl) Tryz.underlying9 (fun _ => by omega)) rfl (RL.u (.eql (.t rfl) .c) rfl (RL.nil (CW.id ?_)))))))))
   refine CW.cond rfl ?_ ?_ <;> intro hb3 <;> try simp only [zb] at hb3
   ·refine CW.region (RL.m rfl rfl (RL.u (.add (.t rfl) .c (fun _ => by omega)) rfl (RL.a rfl rfl (RL.nil (CW.id (CW.sr ?_))))))
    refine RL.m rfl rfl (RL.m rfl rfl (RL.a rfl rfl (RL.a rfl rfl (RL.u (.assign .c) rfl (RL.nil (CW.id ?_))))))
    refine CW.ret (hE.r3 rfl rfl rfl rfl ?_)
    clear hE
    have hq : wholeR s = (1, 1 + 1, true) := by
     unfold wholeR
     (try dsimp only)
     (repeat' split)
     all_goals first | rfl | (exfalso; omega) | (exfalso; simp_all; done) | (simp_all; done) | (exfalso; simp_all; omega)
    rw [hq]; exact ⟨rfl, rfl⟩
   ·refine CW.skip (CW.id (CW.sr (RL.m rfl rfl (RL.m rfl rfl (RL.a rfl rfl (RL.a rfl rfl (RL.u (.assign .c) rfl (RL.nil (CW.id ?_)))))))))
    refine CW.ret (hE.r3 rfl rfl rfl rfl ?_)
    clear hE
    have hq : wholeR s = (1, runTo s 1, true) := by
     unfold wholeR
     (try dsimp only)
     (repeat' split)
     all_goals first | rfl | (exfalso; omega) | (exfalso; simp_all; done) | (simp_all; done) | (exfalso; simp_all; omega)
    rw [hq]; exact ⟨rfl, rfl⟩
 ·refine CW.skip (CW.id (CW.sr (RL.m rfl rfl (RL.m rfl rfl ?_))))
  refine RL.callS .none Tryz.call109 (.cons (.t rfl) (.cons (.t rfl) .nil)) (fun _ => (run1_c s 0 _ (by omega) (by omega) (by omega))) rfl ?_
  refine RL.a rfl rfl ?_
  refine RL.nil (CW.at [Y 0 (str s), Y 5 (i64 0), Y 6 (i64 (runTo s 0))] rfl (CW.seq (CW.sr (RL.m rfl rfl (RL.m rfl rfl (RL.u (.eql (.t rfl) (.t rfl)) rfl (RL.nil (CW.id ?_))))))))
  refine CW.cond rfl ?_ ?_ <;> intro hb4 <;> try simp only [zb] at hb4
  ·refine CW.sr (RL.m rfl rfl (RL.m rfl rfl (RL.a rfl rfl (RL.a rfl rfl (RL.u (.assign .c) rfl (RL.nil (CW.id (CW.ret (hE.r3 rfl rfl rfl rfl ?_)))))))))
   clear hE
   have hq : wholeR s = (0, 0, false) := by
    unfold wholeR
    (try dsimp only)
    (repeat' split)
    all_goals first | rfl | (exfalso; omega) | (exfalso; simp_all; done) | (simp_all; done) | (exfalso; simp_all; omega)
   rw [hq]; exact ⟨rfl, rfl⟩
  ·refine CW.skip (CW.id (CW.seq (CW.sr (RL.m rfl rfl (RL.m rfl rfl (RL.u (.idxS (.t rfl) (.t rfl) Tryz.underlying9 (fun _ => by omega)) rfl (RL.u (.eql (.t rfl) .c) rfl (RL.nil (CW.id ?_)))))))))
   refine CW.cond rfl ?_ ?_ <;> intro hb5 <;> try simp only [zb] at hb5
   ·refine CW.region (RL.m rfl rfl (RL.u (.add (.t rfl) .c (fun _ => by omega)) rfl (RL.a rfl rfl (RL.nil (CW.id (CW.sr ?_))))))
    refine RL.m rfl rfl (RL.m rfl rfl (RL.a rfl rfl (RL.a rfl rfl (RL.u (.assign .c) rfl (RL.nil (CW.id ?_))))))
    refine CW.ret (hE.r3 rfl rfl rfl rfl ?_)
    clear hE
    have hq : wholeR s = (0, 0 + 1, true) := by
     unfold wholeR
     (try dsimp only)
     (repeat' split)
     all_goals first | rfl | (exfalso; omega) | (exfalso; simp_all; done) | (simp_all; done) | (exfalso; simp_all; omega)
    rw [hq]; exact ⟨rfl, rfl⟩
   ·refine CW.skip (CW.id (CW.sr (RL.m rfl rfl (RL.m rfl rfl (RL.a rfl rfl (RL.a rfl rfl (RL.u (.assign .c) rfl (RL.nil (CW.id ?_)))))))))
    refine CW.ret (hE.r3 rfl rfl rfl rfl ?_)
    clear hE
    have hq : wholeR s = (0, runTo s 0, true) := by
     unfold wholeR
     (try dsimp only)
     (repeat' split)
     all_goals first | rfl | (exfalso; omega) | (exfalso; simp_all; done) | (simp_all; done) | (exfalso; simp_all; omega)
    rw [hq]; exact ⟨rfl, rfl⟩

/- loupe/louperef01.power -/
theorem power_c (s : Str) (i : Int) (w : World) (h0 : 0 ≤ i) (h1 : i ≤ len s) (hb : len s ≤ 1099511627776) :
  Calls Tryz.prog 110 [(str s), (i64 i)].toArray w fun e w' => e = .returned (.tuple #[(i64 ((powerR s i).1)), (str ((powerR s i).2.1)), (i64 ((powerR s i).2.2))]) ∧ Ext w w' := by
 refine CW.enter1 Tryz.func110 rfl Tryz.ntmps110 (Nat.le_of_ble_eq_true rfl) fun Q hE => ?_
 have := len_nonneg s
 have hr1 := runTo_bd s (i + 1)
 have hr2 := runTo_bd s (i + 1 + 1)
 have hS : St w nM w nM [] := St.start ⟨fun _ _ _ h => by cases h⟩
 refine CW.weaken [0, 1] (L' := [Y 0 (str s), Y 1 (i64 i)]) ?_ rfl
 refine CW.sr (RL.u (.assign .c) rfl (RL.u (.assign .c) rfl (RL.u (.assign .c) rfl (RL.nil (CW.id (CW.seq ?_))))))
 refine CW.sr (RL.m rfl rfl (RL.m rfl rfl (RL.u (.lenS (.t rfl) Tryz.underlying9) rfl (RL.u (.eql (.t rfl) (.t rfl)) rfl (RL.m rfl rfl (RL.v (.neg rfl rfl) (.move (.t rfl)) rfl (RL.v (.neg rfl rfl) (.move (.t rfl)) rfl (RL.v (.neg rfl rfl) (.idxS (.g rfl (fun h => h)) (.g rfl (fun h => h)) Tryz.underlying9 (fun hW => by simp only [zb] at hW; omega)) rfl (RL.v (.neg rfl rfl) (.neq (.g rfl (fun h => h)) .c) rfl (RL.v (.neg rfl rfl) (.move (.g rfl (fun h => h))) rfl (RL.v (.posG rfl rfl) (.move (.t rfl)) rfl (RL.v (.posG rfl rfl) (.move (.t rfl)) rfl (RL.v (.posG rfl rfl) (.idxS (.g rfl (fun h => h)) (.g rfl (fun h => h)) Tryz.underlying9 (fun hW => by simp only [zb] at hW; omega)) rfl (RL.v (.posG rfl rfl) (.neq (.g rfl (fun h => h)) .c) rfl (RL.v (.neg rfl rfl) (.and (.g rfl (fun h => h)) (.g rfl (fun h => h))) rfl (RL.u (.or (.t rfl) (.g rfl (fun h => h))) rfl (RL.nil (CW.id ?_))))))))))))))))))
 refine CW.cond rfl ?_ ?_ <;> intro hb1 <;> try simp only [zb] at hb1
 ·refine CW.sr (RL.m rfl rfl (RL.u (.assign .c) rfl (RL.u (.assign .c) rfl (RL.a rfl rfl (RL.nil (CW.id (CW.ret (hE.r3 rfl rfl rfl rfl ?_))))))))
  clear hE
  have hq : powerR s i = (0, [], i) := by
   unfold powerR
   (try dsimp only)
   (repeat' split)
   all_goals first | rfl | (exfalso; omega) | (exfalso; simp_all; done) | (simp_all; done) | (exfalso; simp_all; omega)
  rw [hq]; exact ⟨rfl, hS.low⟩
 ·refine CW.skip (CW.id (CW.sr (RL.m rfl rfl (RL.u (.add (.t rfl) .c (fun _ => by omega)) rfl (RL.a rfl rfl (RL.nil (CW.id ?_)))))))
  refine CW.sr (RL.u (.assign .c) rfl (RL.nil (CW.id (CW.seq ?_))))
  refine CW.sr (RL.m rfl rfl (RL.m rfl rfl (RL.u (.lenS (.t rfl) Tryz.underlying9) rfl (RL.u (.lss (.t rfl) (.t rfl)) rfl (RL.m rfl rfl (RL.v (.pos rfl rfl) (.move (.t rfl)) rfl (RL.v (.pos rfl rfl) (.move (.t rfl)) rfl (RL.v (.pos rfl rfl) (.idxS (.g rfl (fun h => h)) (.g rfl (fun h => h)) Tryz.underlying9 (fun hW => by simp only [zb] at hW; omega)) rfl (RL.v (.pos rfl rfl) (.eql (.g rfl (fun h => h)) .c) rfl (RL.v (.pos rfl rfl) (.move (.g rfl (fun h => h))) rfl (RL.v (.negG rfl rfl) (.move (.t rfl)) rfl (RL.v (.negG rfl rfl) (.move (.t rfl)) rfl (RL.v (.negG rfl rfl) (.idxS (.g rfl (fun h => h)) (.g rfl (fun h => h)) Tryz.underlying9 (fun hW => by simp only [zb] at hW; omega)) rfl (RL.v (.negG rfl rfl) (.eql (.g rfl (fun h => h)) .c) rfl (RL.v (.pos rfl rfl) (.or (.g rfl (fun h => h)) (.g rfl (fun h => h))) rfl (RL.u (.and (.t rfl) (.g rfl (fun h => h))) rfl (RL.nil (CW.id ?_))))))))))))))))))
  refine CW.cond rfl ?_ ?_ <;> intro hb2 <;> try simp only [zb] at hb2
  ·refine CW.seq (CW.sr (RL.m rfl rfl (RL.m rfl rfl (RL.u (.idxS (.t rfl) (.t rfl) Tryz.underlying9 (fun _ => by omega)) rfl (RL.u (.eql (.t rfl) .c) rfl (RL.nil (CW.at [Y 0 (str s), Y 1 (i64 (i + 1)), Y 7 (i64 1), Y 46 (.bool ((byteAt s (i + 1)) == 45))] rfl ?_)))))))
   refine CW.cond rfl ?_ ?_ <;> intro hb3 <;> try simp only [zb] at hb3
   ·refine CW.region (RL.u (.assign .c) rfl (RL.nil (CW.id ?_)))
    refine CW.region (RL.m rfl rfl (RL.u (.add (.t rfl) .c (fun _ => by omega)) rfl (RL.a rfl rfl (RL.nil (CW.id (CW.seq ?_))))))
    refine CW.regionD hS tryz_mixed (by decide +kernel) ?_
    refine RQ.v .none (.move (.t rfl)) rfl ?_
    refine RQ.v .none (.move (.t rfl)) rfl ?_
    refine RQ.v .none (.move (.t rfl)) rfl ?_
    refine RQ.v .none (.move (.t rfl)) rfl ?_
    refine RQ.v .none (.move (.t rfl)) rfl ?_
    refine RQ.call .none Tryz.call109 (.cons (.t rfl) (.cons (.t rfl) .nil)) (fun _ => (fun w2 hw2 => ((run1_c s ((i + 1) + 1) _ (by omega) (by omega) (by omega))).mono (fun e w3 h3 => ⟨h3.1, h3.2 ▸ hw2⟩))) rfl ?_
    refine RQ.v .none (.slS (.t rfl) (.t rfl) (.t rfl) Tryz.underlying9 (fun _ => by omega)) rfl ?_
    refine RQ.v .none (.move (.t rfl)) rfl ?_
    refine RQ.v .none (.move (.t rfl)) rfl ?_
    refine RQ.call .none Tryz.call109 (.cons (.t rfl) (.cons (.t rfl) .nil)) (fun _ => (fun w2 hw2 => ((run1_c s ((i + 1) + 1) _ (by omega) (by omega) (by omega))).mono (fun e w3 h3 => ⟨h3.1, h3.2 ▸ hw2⟩))) rfl ?_
    refine RQ.v .none (.assign (.t rfl)) rfl ?_
    refine RQ.v .none (.assign (.t rfl)) rfl ?_
    refine RQ.v .none (.assign (.t rfl)) rfl ?_
    refine RQ.nil (fun a hs w1 hS2 => CW.at [Y 4 (i64 (-1)), Y 5 (str (Eng.sub s ((i + 1) + 1) (runTo s ((i + 1) + 1)))), Y 6 (i64 (runTo s ((i + 1) + 1)))] rfl ?_ a hs)
    refine CW.ret (hE.r3 rfl rfl rfl rfl ?_)
    clear hE
    have hq : powerR s i = ((-1), Eng.sub s ((i + 1) + 1) (runTo s ((i + 1) + 1)), runTo s ((i + 1) + 1)) := by
     unfold powerR
     (try dsimp only)
     (repeat' split)
     all_goals first | rfl | (exfalso; omega) | (exfalso; simp_all; done) | (simp_all; done) | (exfalso; simp_all; omega)
    rw [hq]; exact ⟨rfl, hS2.low⟩
   ·refine CW.skip (CW.id ?_)
    refine CW.region (RL.m rfl rfl (RL.u (.add (.t rfl) .c (fun _ => by omega)) rfl (RL.a rfl rfl (RL.nil (CW.id (CW.seq ?_))))))
    refine CW.regionD hS tryz_mixed (by decide +kernel) ?_
    refine RQ.v .none (.move (.t rfl)) rfl ?_
    refine RQ.v .none (.move (.t rfl)) rfl ?_
    refine RQ.v .none (.move (.t rfl)) rfl ?_
    refine RQ.v .none (.move (.t rfl)) rfl ?_
    refine RQ.v .none (.move (.t rfl)) rfl ?_
    refine RQ.call .none Tryz.call109 (.cons (.t rfl) (.cons (.t rfl) .nil)) (fun _ => (fun w2 hw2 => ((run1_c s ((i + 1) + 1) _ (by omega) (by omega) (by omega))).mono (fun e w3 h3 => ⟨h3.1, h3.2 ▸ hw2⟩))) rfl ?_
    refine RQ.v .none (.slS (.t rfl) (.t rfl) (.t rfl) Tryz.underlying9 (fun _ => by omega)) rfl ?_
    refine RQ.v .none (.move (.t rfl)) rfl ?_
    refine RQ.v .none (.move (.t rfl)) rfl ?_
    refine RQ.call .none Tryz.call109 (.cons (.t rfl) (.cons (.t rfl) .nil)) (fun _ => (fun w2 hw2 => ((run1_c s ((i + 1) + 1) _ (by omega) (by omega) (by omega))).mono (fun e w3 h3 => ⟨h3.1, h3.2 ▸ hw2⟩))) rfl ?_
    refine RQ.v .none (.assign (.t rfl)) rfl ?_
    refine RQ.v .none (.assign (.t rfl)) rfl ?_
    refine RQ.v .none (.assign (.t rfl)) rfl ?_
    refine RQ.nil (fun a hs w3 hS4 => CW.at [Y 4 (i64 1), Y 5 (str (Eng.sub s ((i + 1) + 1) (runTo s ((i + 1) + 1)))), Y 6 (i64 (runTo s ((i + 1) + 1)))] rfl ?_ a hs)
    refine CW.ret (hE.r3 rfl rfl rfl rfl ?_)
    clear hE
    have hq : powerR s i = (1, Eng.sub s ((i + 1) + 1) (runTo s ((i + 1) + 1)), runTo s ((i + 1) + 1)) := by
     unfold powerR
     (try dsimp only)
     (repeat' split)
     all_goals first | rfl | (exfalso; omega) | (exfalso; simp_all; done) | (simp_all; done) | (exfalso; simp_all; omega)
    rw [hq]; exact ⟨rfl, hS4.low⟩
  ·refine CW.skip (CW.id (CW.seq ?_))
   refine CW.regionD hS tryz_mixed (by decide +kernel) ?_
   refine RQ.v .none (.move (.t rfl)) rfl ?_
   refine RQ.v .none (.move (.t rfl)) rfl ?_
   refine RQ.v .none (.move (.t rfl)) rfl ?_
   refine RQ.v .none (.move (.t rfl)) rfl ?_
   refine RQ.v .none (.move (.t rfl)) rfl ?_
   refine RQ.call .none Tryz.call109 (.cons (.t rfl) (.cons (.t rfl) .nil)) (fun _ => (fun w2 hw2 => ((run1_c s (i + 1) _ (by omega) (by omega) (by omega))).mono (fun e w3 h3 => ⟨h3.1, h3.2 ▸ hw2⟩))) rfl ?_
   refine RQ.v .none (.slS (.t rfl) (.t rfl) (.t rfl) Tryz.underlying9 (fun _ => by omega)) rfl ?_
   refine RQ.v .none (.move (.t rfl)) rfl ?_
   refine RQ.v .none (.move (.t rfl)) rfl ?_
   refine RQ.call .none Tryz.call109 (.cons (.t rfl) (.cons (.t rfl) .nil)) (fun _ => (fun w2 hw2 => ((run1_c s (i + 1) _ (by omega) (by omega) (by omega))).mono (fun e w3 h3 => ⟨h3.1, h3.2 ▸ hw2⟩))) rfl ?_
   refine RQ.v .none (.assign (.t rfl)) rfl ?_
   refine RQ.v .none (.assign (.t rfl)) rfl ?_
   refine RQ.v .none (.assign (.t rfl)) rfl ?_
   refine RQ.nil (fun a hs w5 hS6 => CW.at [Y 4 (i64 1), Y 5 (str (Eng.sub s (i + 1) (runTo s (i + 1)))), Y 6 (i64 (runTo s (i + 1)))] rfl ?_ a hs)
   refine CW.ret (hE.r3 rfl rfl rfl rfl ?_)
   clear hE
   have hq : powerR s i = (1, Eng.sub s (i + 1) (runTo s (i + 1)), runTo s (i + 1)) := by
    unfold powerR
    (try dsimp only)
    (repeat' split)
    all_goals first | rfl | (exfalso; omega) | (exfalso; simp_all; done) | (simp_all; done) | (exfalso; simp_all; omega)
   rw [hq]; exact ⟨rfl, hS6.low⟩

/- loupe/louperef01.Read -/
theorem read3_c (s : Str) (w : World) (hb : len s ≤ 1099511627776) :
  Calls Tryz.prog 78 [(str s)].toArray w fun e w' => e = .returned (.tuple #[(ndV ((read1 s).1)), (i64 ((read1 s).2.1)), (i64 ((read1 s).2.2))]) ∧ Ext w w' := by
 refine CW.enter1 Tryz.func78 rfl Tryz.ntmps78 (Nat.le_of_ble_eq_true rfl) fun Q hE => ?_
 have := len_nonneg s
 have hwb := wholeR_bd s
 have hS : St w nM w nM [] := St.start ⟨fun _ _ _ h => by cases h⟩
 refine CW.weaken [0] (L' := [Y 0 (str s)]) ?_ rfl
 refine CW.sr ?_
 refine RL.alloc hS Tryz.zeroValue38 rfl (fun w1 b2 hS3 => ?_)
 refine RL.u (.assign .c) rfl (RL.u (.assign .c) rfl (RL.nil (CW.id ?_)))
 refine CW.sr (RL.m rfl rfl ?_)
 refine RL.callS .none Tryz.call108 (.cons (.t rfl) .nil) (fun _ => (whole_c s _ (by omega))) rfl ?_
 refine RL.m rfl rfl (RL.u (.ex (.t rfl) rfl) rfl (RL.u (.ex (.t rfl) rfl) rfl (RL.u (.ex (.t rfl) rfl) rfl (RL.a rfl rfl (RL.a rfl rfl ?_)))))
 refine RL.a rfl rfl ?_
 refine RL.nil (CW.at [Y 0 (str s), Y 2 (.pointer (some ⟨b2, 0, none⟩)), Y 5 (i64 ((wholeR s).1)), Y 6 (i64 ((wholeR s).2.1)), Y 7 (.bool ((wholeR s).2.2))] rfl (CW.seq (CW.sr (RL.m rfl rfl (RL.u (.not (.t rfl)) rfl (RL.nil (CW.id ?_)))))))
 refine CW.cond rfl ?_ ?_ <;> intro hb1 <;> try simp only [zb] at hb1
 ·refine CW.sr (RL.u (.build (vs := []) (v := (.agg #[(i64 0), (i64 0), (str []), (str []), (.bool false), (i64 0)])) .nil (fun w => by kernel_rfl)) rfl (RL.m rfl rfl ?_))
  refine RL.st hS3 (i := 0) rfl (.t rfl) (.t rfl) Tryz.sizeOf38 rfl rfl rfl rfl rfl (fun w4 hS5 => ?_)
  refine RL.a rfl rfl (RL.u (.assign .c) rfl (RL.nil (CW.id ?_)))
  refine CW.ret (hE.R3 rfl (.boxN hS5 (i := 0) rfl rfl Tryz.isAgg38 Tryz.sizeOf38) (show RV _ _ _ (.tmp _) _ from rfl) (show RV _ _ _ (.tmp _) _ from rfl) ?_)
  clear hE
  have hq : read1 s = (⟨0, 0, [], [], false, 0⟩, (wholeR s).1, 1) := by
   rw [← readR_eq]
   unfold readR expR
   dsimp only
   rw [if_pos (by first | assumption | omega | (simp_all; done) | grind)]
   try rfl
  rw [hq]; exact ⟨rfl, hS5.low⟩
 ·have hs1 := sub_len (s := s) (i := (wholeR s).1) (j := (wholeR s).2.1) (by omega) (by omega) (by omega)
  have hl0 := hwb.2.2.2.2 hb1
  refine CW.skip (CW.id (CW.sr (RL.m rfl rfl (RL.m rfl rfl (RL.m rfl rfl (RL.u (.slS (.t rfl) (.t rfl) (.t rfl) Tryz.underlying9 (fun _ => by first | omega | (rw [len_app]; omega))) rfl (RL.a rfl rfl (RL.u (.assign .c) rfl (RL.nil (CW.id ?_))))))))))
  refine CW.sr (RL.m rfl rfl (RL.a rfl rfl (RL.nil (CW.id (CW.seq ?_)))))
  refine CW.sr (RL.m rfl rfl (RL.m rfl rfl (RL.u (.lenS (.t rfl) Tryz.underlying9) rfl (RL.u (.lss (.t rfl) (.t rfl)) rfl (RL.m rfl rfl (RL.v (.pos rfl rfl) (.move (.t rfl)) rfl (RL.v (.pos rfl rfl) (.move (.t rfl)) rfl (RL.v (.pos rfl rfl) (.idxS (.g rfl (fun h => h)) (.g rfl (fun h => h)) Tryz.underlying9 (fun hW => by simp only [zb] at hW; first | omega | (rw [len_app]; omega))) rfl (RL.v (.pos rfl rfl) (.eql (.g rfl (fun h => h)) .c) rfl (RL.u (.and (.t rfl) (.g rfl (fun h => h))) rfl (RL.nil (CW.id ?_))))))))))))
  refine CW.cond rfl ?_ ?_ <;> intro hb2 <;> try simp only [zb] at hb2
  ·have hr := runTo_bd s ((wholeR s).2.1 + 1) (by omega) (by omega)
   have hpb := powerR_bd (s := s) (i := runTo s ((wholeR s).2.1 + 1)) (by omega) (by omega)
   have hs2 := sub_len (s := s) (i := (wholeR s).2.1 + 1) (j := runTo s ((wholeR s).2.1 + 1)) (by omega) (by omega) (by omega)
   refine CW.sr (RL.m rfl rfl (RL.m rfl rfl (RL.u (.add (.t rfl) .c (fun _ => by first | omega | (rw [len_app]; omega))) rfl ?_)))
   refine RL.callS .none Tryz.call109 (.cons (.t rfl) (.cons (.t rfl) .nil)) (fun _ => (run1_c s (((wholeR s).2.1) + 1) _ (by omega) (by omega) (by omega))) rfl ?_
   refine RL.a rfl rfl ?_
   refine RL.nil (CW.at [Y 0 (str s), Y 2 (.pointer (some ⟨b2, 0, none⟩)), Y 6 (i64 ((wholeR s).2.1)), Y 8 (str (Eng.sub s ((wholeR s).1) ((wholeR s).2.1))), Y 10 (i64 (runTo s (((wholeR s).2.1) + 1)))] rfl (CW.seq (CW.sr (RL.m rfl rfl (RL.m rfl rfl (RL.u (.add (.t rfl) .c (fun _ => by first | omega | (rw [len_app]; omega))) rfl (RL.u (.eql (.t rfl) (.t rfl)) rfl (RL.nil (CW.id ?_)))))))))
   refine CW.cond rfl ?_ ?_ <;> intro hb3 <;> try simp only [zb] at hb3
   ·refine CW.sr (RL.u (.build (vs := []) (v := (.agg #[(i64 0), (i64 0), (str []), (str []), (.bool false), (i64 0)])) .nil (fun w => by kernel_rfl)) rfl (RL.m rfl rfl ?_))
    refine RL.st hS3 (i := 0) rfl (.t rfl) (.t rfl) Tryz.sizeOf38 rfl rfl rfl rfl rfl (fun w6 hS7 => ?_)
    refine RL.a rfl rfl (RL.u (.assign .c) rfl (RL.nil (CW.id ?_)))
    refine CW.ret (hE.R3 rfl (.boxN hS7 (i := 0) rfl rfl Tryz.isAgg38 Tryz.sizeOf38) (show RV _ _ _ (.tmp _) _ from rfl) (show RV _ _ _ (.tmp _) _ from rfl) ?_)
    clear hE
    have hq : read1 s = (⟨0, 0, [], [], false, 0⟩, runTo s (((wholeR s).2.1) + 1), 1) := by
     rw [← readR_eq]
     unfold readR expR
     dsimp only
     rw [if_neg (by first | assumption | omega | (simp_all; done) | grind), if_pos (by first | assumption | omega | (simp_all; done) | grind), if_pos (by first | assumption | omega | (simp_all; done) | grind)]
     try rfl
    rw [hq]; exact ⟨rfl, hS7.low⟩
   ·refine CW.skip (CW.id (CW.sr (RL.m rfl rfl (RL.m rfl rfl (RL.m rfl rfl (RL.u (.add (.t rfl) .c (fun _ => by first | omega | (rw [len_app]; omega))) rfl (RL.m rfl rfl (RL.u (.slS (.t rfl) (.t rfl) (.t rfl) Tryz.underlying9 (fun _ => by first | omega | (rw [len_app]; omega))) rfl (RL.u (.sadd (.t rfl) (.t rfl) (fun _ => by first | omega | (rw [len_app]; omega))) rfl (RL.a rfl rfl (RL.nil (CW.id ?_))))))))))))
    refine CW.region (RL.m rfl rfl (RL.u (.add (.t rfl) .c (fun _ => by first | omega | (rw [len_app]; omega))) rfl (RL.m rfl rfl (RL.u (.sub (.t rfl) (.t rfl) (fun _ => by first | omega | (rw [len_app]; omega))) rfl (RL.a rfl rfl (RL.nil (CW.id (CW.sr ?_))))))))
    refine RL.m rfl rfl (RL.m rfl rfl ?_)
    refine RL.callE hS3 .none Tryz.call110 (.cons (.t rfl) (.cons (.t rfl) .nil)) (fun _ => (power_c s (runTo s (((wholeR s).2.1) + 1)) _ (by omega) (by omega) (by omega))) rfl (fun w8 hS9 => ?_)
    refine RL.m rfl rfl (RL.u (.ex (.t rfl) rfl) rfl (RL.u (.ex (.t rfl) rfl) rfl (RL.u (.ex (.t rfl) rfl) rfl (RL.a rfl rfl (RL.a rfl rfl ?_)))))
    refine RL.a rfl rfl ?_
    refine RL.nil (CW.at [Y 0 (str s), Y 2 (.pointer (some ⟨b2, 0, none⟩)), Y 8 (str ((Eng.sub s ((wholeR s).1) ((wholeR s).2.1)) ++ (Eng.sub s (((wholeR s).2.1) + 1) (runTo s (((wholeR s).2.1) + 1))))), Y 9 (i64 ((((wholeR s).2.1) + 1) - (runTo s (((wholeR s).2.1) + 1)))), Y 11 (i64 ((powerR s (runTo s (((wholeR s).2.1) + 1))).1)), Y 12 (str ((powerR s (runTo s (((wholeR s).2.1) + 1))).2.1)), Y 13 (i64 ((powerR s (runTo s (((wholeR s).2.1) + 1))).2.2))] rfl (CW.seq (CW.sr (RL.m rfl rfl (RL.m rfl rfl (RL.u (.lenS (.t rfl) Tryz.underlying9) rfl (RL.u (.lss (.t rfl) (.t rfl)) rfl (RL.m rfl rfl (RL.v (.neg rfl rfl) (.move (.t rfl)) rfl ?_)))))))))
    refine RL.v (.neg rfl rfl) (.neq (.g rfl (fun h => h)) .c) rfl (RL.v (.neg rfl rfl) (.move (.g rfl (fun h => h))) rfl (RL.v (.posG rfl rfl) (.move (.t rfl)) rfl (RL.v (.posG rfl rfl) (.seql (.g rfl (fun h => h)) .c) rfl (RL.v (.neg rfl rfl) (.and (.g rfl (fun h => h)) (.g rfl (fun h => h))) rfl (RL.u (.or (.t rfl) (.g rfl (fun h => h))) rfl (RL.nil (CW.id ?_)))))))
    refine CW.cond rfl ?_ ?_ <;> intro hb4 <;> try simp only [zb] at hb4
    ·refine CW.sr (RL.u (.build (vs := []) (v := (.agg #[(i64 0), (i64 0), (str []), (str []), (.bool false), (i64 0)])) .nil (fun w => by kernel_rfl)) rfl (RL.m rfl rfl ?_))
     refine RL.st hS9 (i := 0) rfl (.t rfl) (.t rfl) Tryz.sizeOf38 rfl rfl rfl rfl rfl (fun w10 hS11 => ?_)
     refine RL.a rfl rfl (RL.u (.assign .c) rfl (RL.nil (CW.id ?_)))
     refine CW.ret (hE.R3 rfl (.boxN hS11 (i := 0) rfl rfl Tryz.isAgg38 Tryz.sizeOf38) (show RV _ _ _ (.tmp _) _ from rfl) (show RV _ _ _ (.tmp _) _ from rfl) ?_)
     clear hE
     have hq : read1 s = (⟨0, 0, [], [], false, 0⟩, (powerR s (runTo s (((wholeR s).2.1) + 1))).2.2, 1) := by
      rw [← readR_eq]
      unfold readR expR
      dsimp only
      rw [if_neg (by first | assumption | omega | (simp_all; done) | grind), if_pos (by first | assumption | omega | (simp_all; done) | grind), if_neg (by first | assumption | omega | (simp_all; done) | grind), if_pos (by first | assumption | omega | (simp_all; done) | grind)]
      try rfl
     rw [hq]; exact ⟨rfl, hS11.low⟩
    ·refine CW.skip (CW.id (CW.seq (CW.block ?_)))
     refine CW.loop (σ := Str) (fun t => [Y 0 (str s), Y 2 (.pointer (some ⟨b2, 0, none⟩)), Y 8 (str ((Eng.sub s ((wholeR s).1) ((wholeR s).2.1)) ++ (Eng.sub s (((wholeR s).2.1) + 1) (runTo s (((wholeR s).2.1) + 1))))), Y 9 (i64 ((((wholeR s).2.1) + 1) - (runTo s (((wholeR s).2.1) + 1)))), Y 11 (i64 ((powerR s (runTo s (((wholeR s).2.1) + 1))).1)), Y 12 (str t)]) (fun t wl => St w nM wl nM [.box b2 [(i64 0), (i64 0), (str []), (str []), (.bool false), (i64 0)] 38] ∧ dropZ t = dropZ ((powerR s (runTo s (((wholeR s).2.1) + 1))).2.1) ∧ len t ≤ len ((powerR s (runTo s (((wholeR s).2.1) + 1))).2.1)) (fun t => t.length) ((powerR s (runTo s (((wholeR s).2.1) + 1))).2.1) [0, 2, 8, 9, 11, 12] rfl ?_ ?_
     ·refine ⟨hS9, ?_⟩; exact ⟨rfl, Int.le_refl _⟩
     ·rintro t wl ⟨hS12, hF, hl⟩
      have hbt := byteAt_bd t 0
      have hlt := len_nonneg t
      have hfl := from_bd t 1
      refine CW.seq (CW.sr (RL.m rfl rfl (RL.u (.lenS (.t rfl) Tryz.underlying9) rfl (RL.u (.gtr (.t rfl) .c) rfl (RL.m rfl rfl (RL.v (.pos rfl rfl) (.move (.t rfl)) rfl (RL.v (.pos rfl rfl) (.idxS (.g rfl (fun h => h)) .c Tryz.underlying9 (fun hW => by simp only [zb] at hW; first | omega | (rw [len_app]; omega))) rfl (RL.v (.pos rfl rfl) (.eql (.g rfl (fun h => h)) .c) rfl (RL.u (.and (.t rfl) (.g rfl (fun h => h))) rfl (RL.nil (CW.id ?_)))))))))))
      refine CW.cond rfl ?_ ?_ <;> intro hb5 <;> try simp only [zb] at hb5
      ·refine CW.skip (CW.id (CW.block ?_))
       refine CW.region (RL.m rfl rfl (RL.u (.slSl (.t rfl) .c Tryz.underlying9 (fun _ => by first | omega | (rw [len_app]; omega))) rfl (RL.a rfl rfl ?_)))
       refine RL.nil fun a hs => Exists.intro (Eng.from' t 1) ⟨hs.keep [0, 2, 8, 9, 11, 12], ?_, ?_⟩
       ·refine ⟨hS12, ?_⟩
        exact ⟨by rw [dropZ_step (by assumption), hF], by omega⟩
       ·show List.length _ < List.length _; have := from_len t 1 (by omega) (by omega); unfold len at *; omega
      ·have ht : t = dropZ (powerR s (runTo s ((wholeR s).2.1 + 1))).2.1 := by rw [← hF, dropZ_stop (by rintro ⟨h1, h2⟩; rcases hb5 with h | h; exact h h1; exact h h2)]
       have htf : ∀ b ∈ t, isFigB b = true := by rw [ht]; exact figs_drop hpb.2.2.2
       refine CW.exit (CW.at [Y 0 (str s), Y 2 (.pointer (some ⟨b2, 0, none⟩)), Y 8 (str ((Eng.sub s ((wholeR s).1) ((wholeR s).2.1)) ++ (Eng.sub s (((wholeR s).2.1) + 1) (runTo s (((wholeR s).2.1) + 1))))), Y 9 (i64 ((((wholeR s).2.1) + 1) - (runTo s (((wholeR s).2.1) + 1)))), Y 11 (i64 ((powerR s (runTo s (((wholeR s).2.1) + 1))).1)), Y 12 (str t)] rfl ?_)
       refine CW.seq (CW.sr (RL.m rfl rfl (RL.u (.lenS (.t rfl) Tryz.underlying9) rfl (RL.u (.gtr (.t rfl) .c) rfl (RL.nil (CW.id ?_))))))
       refine CW.cond rfl ?_ ?_ <;> intro hb6 <;> try simp only [zb] at hb6
       ·refine CW.sr (RL.u (.build (vs := []) (v := (.agg #[(i64 0), (i64 0), (str []), (str []), (.bool false), (i64 0)])) .nil (fun w => by kernel_rfl)) rfl ?_)
        refine RL.st hS12 (i := 0) rfl (.t rfl) (.t rfl) Tryz.sizeOf38 rfl rfl rfl rfl rfl (fun w13 hS14 => ?_)
        refine RL.u (.assign .c) rfl (RL.u (.assign .c) rfl (RL.nil (CW.id ?_)))
        refine CW.ret (hE.R3 rfl (.boxN hS14 (i := 0) rfl rfl Tryz.isAgg38 Tryz.sizeOf38) (show RV _ _ _ (.tmp _) _ from rfl) (show RV _ _ _ (.tmp _) _ from rfl) ?_)
        clear hE
        have hq : read1 s = (⟨0, 0, [], [], false, 0⟩, 0, 2) := by
         rw [← readR_eq]
         unfold readR expR
         dsimp only
         rw [if_neg (by first | assumption | omega | (simp_all; done) | grind), if_pos (by first | assumption | omega | (simp_all; done) | grind), if_neg (by first | assumption | omega | (simp_all; done) | grind), if_neg (by first | assumption | omega | (simp_all; done) | grind), if_pos (by first | assumption | omega | (simp_all; done) | grind)]
         try rfl
        rw [hq]; exact ⟨rfl, hS14.low⟩
       ·refine CW.skip (CW.id (CW.sr (RL.u (.assign .c) rfl (RL.nil (CW.id ?_)))))
        refine CW.seq (CW.sr (RL.u (.assign .c) rfl (RL.nil (CW.id ?_))))
        refine CW.block ?_
        refine CW.loop (σ := Int × Int) (fun (n, k) => [Y 0 (str s), Y 2 (.pointer (some ⟨b2, 0, none⟩)), Y 8 (str ((Eng.sub s ((wholeR s).1) ((wholeR s).2.1)) ++ (Eng.sub s (((wholeR s).2.1) + 1) (runTo s (((wholeR s).2.1) + 1))))), Y 9 (i64 ((((wholeR s).2.1) + 1) - (runTo s (((wholeR s).2.1) + 1)))), Y 11 (i64 ((powerR s (runTo s (((wholeR s).2.1) + 1))).1)), Y 12 (str t), Y 14 (i64 n), Y 15 (i64 k)]) (fun (n, k) wl => St w nM wl nM [.box b2 [(i64 0), (i64 0), (str []), (str []), (.bool false), (i64 0)] 38] ∧ 0 ≤ k ∧ k ≤ len t ∧ n = decVal (Eng.sub t 0 k)) (fun (n, k) => (len t - k).toNat) ((0, 0)) [0, 2, 8, 9, 11, 12, 14, 15] rfl ?_ ?_
        ·refine ⟨hS12, ?_⟩; exact ⟨by omega, by omega, rfl⟩
        ·rintro ⟨n, k⟩ wl ⟨hS15, hk0, hk1, hn⟩
         have hfk := fun h => figs_at htf hk0 (k := k) h
         have hnb := dec_bd6 htf (by omega) k
         rw [← hn] at hnb
         have hsn := side_bd hpb.1.1 hpb.1.2 hnb.1 hnb.2
         refine CW.seq (CW.sr (RL.m rfl rfl (RL.m rfl rfl (RL.u (.lenS (.t rfl) Tryz.underlying9) rfl (RL.u (.lss (.t rfl) (.t rfl)) rfl (RL.nil (CW.id ?_)))))))
         refine CW.cond rfl ?_ ?_ <;> intro hb7 <;> try simp only [zb] at hb7
         ·refine CW.skip (CW.id (CW.seq (CW.block ?_)))
          refine CW.region (RL.m rfl rfl (RL.u (.mul (.t rfl) .c (fun _ => by first | omega | (rw [len_app]; omega))) rfl (RL.m rfl rfl (RL.m rfl rfl (RL.u (.idxS (.t rfl) (.t rfl) Tryz.underlying9 (fun _ => by first | omega | (rw [len_app]; omega))) rfl (RL.u (.subK (r := (byteAt t k) - 48) (.t rfl) .c (fun _ => by exact Eng.wrap_u8 (by omega))) rfl (RL.u (.cvtK (r := (byteAt t k) - 48) (.t rfl) Tryz.underlying5 Tryz.underlying3 (fun _ => by exact Eng.wrap_i64 (by omega))) rfl (RL.u (.add (.t rfl) (.t rfl) (fun _ => by first | omega | (rw [len_app]; omega))) rfl (RL.a rfl rfl (RL.nil (CW.id ?_)))))))))))
          refine CW.region (RL.m rfl rfl (RL.u (.add (.t rfl) .c (fun _ => by first | omega | (rw [len_app]; omega))) rfl (RL.a rfl rfl ?_)))
          refine RL.nil fun a hs => Exists.intro ((n * 10 + (byteAt t k - 48), k + 1)) ⟨hs.keep [0, 2, 8, 9, 11, 12, 14, 15], ?_, ?_⟩
          ·refine ⟨hS15, ?_⟩
           exact ⟨by omega, by omega, by rw [dec_step hk0 (by omega), ← hn]⟩
          ·show Int.toNat _ < Int.toNat _; omega
         ·have hk : k = len t := by omega
          rw [hk, sub_all t (len t) (Int.le_refl _), ht] at hn
          refine CW.exit (CW.at [Y 0 (str s), Y 2 (.pointer (some ⟨b2, 0, none⟩)), Y 8 (str ((Eng.sub s ((wholeR s).1) ((wholeR s).2.1)) ++ (Eng.sub s (((wholeR s).2.1) + 1) (runTo s (((wholeR s).2.1) + 1))))), Y 9 (i64 ((((wholeR s).2.1) + 1) - (runTo s (((wholeR s).2.1) + 1)))), Y 11 (i64 ((powerR s (runTo s (((wholeR s).2.1) + 1))).1)), Y 14 (i64 n)] rfl ?_)
          refine CW.sr (RL.m rfl rfl (RL.u (.idxS (.t rfl) .c Tryz.underlying9 (fun _ => by first | omega | (rw [len_app]; omega))) rfl (RL.u (.eql (.t rfl) .c) rfl (RL.m rfl rfl (RL.m rfl rfl (RL.m rfl rfl (RL.m rfl rfl (RL.u (.mul (.t rfl) (.t rfl) (fun _ => by first | omega | (rw [len_app]; omega))) rfl (RL.u (.add (.t rfl) (.t rfl) (fun _ => by first | omega | (rw [len_app]; omega))) rfl ?_)))))))))
          refine RL.callE hS15 .none Tryz.call111 (.cons (.t rfl) (.cons (.t rfl) (.cons (.t rfl) .nil))) (fun _ => (make1_c ((byteAt s 0) == 45) ((Eng.sub s ((wholeR s).1) ((wholeR s).2.1)) ++ (Eng.sub s (((wholeR s).2.1) + 1) (runTo s (((wholeR s).2.1) + 1)))) (((((wholeR s).2.1) + 1) - (runTo s (((wholeR s).2.1) + 1))) + (((powerR s (runTo s (((wholeR s).2.1) + 1))).1) * n)) _ (by first | omega | (rw [len_app]; omega)))) rfl (fun w16 hS17 => ?_)
          refine RL.m rfl rfl (RL.u (.ex (.t rfl) rfl) rfl (RL.u (.ex (.t rfl) rfl) rfl ?_))
          refine RL.alloc hS17 Tryz.zeroValue38 rfl (fun w18 b19 hS20 => ?_)
          refine RL.st hS20 (i := 0) rfl (.t rfl) (.t rfl) Tryz.sizeOf38 rfl rfl rfl rfl rfl (fun w21 hS22 => ?_)
          refine RL.a rfl rfl ?_
          refine RL.nil (CW.at [Y 2 (.pointer (some ⟨b2, 0, none⟩)), Y 16 (.pointer (some ⟨b19, 0, none⟩)), Y 17 (i64 ((mk1 ((byteAt s 0) == 45) ((Eng.sub s ((wholeR s).1) ((wholeR s).2.1)) ++ (Eng.sub s (((wholeR s).2.1) + 1) (runTo s (((wholeR s).2.1) + 1)))) (((((wholeR s).2.1) + 1) - (runTo s (((wholeR s).2.1) + 1))) + (((powerR s (runTo s (((wholeR s).2.1) + 1))).1) * n))).2))] rfl (CW.sr (RL.u (.loadBN (vs := (ndC ((mk1 ((byteAt s 0) == 45) ((Eng.sub s ((wholeR s).1) ((wholeR s).2.1)) ++ (Eng.sub s (((wholeR s).2.1) + 1) (runTo s (((wholeR s).2.1) + 1)))) (((((wholeR s).2.1) + 1) - (runTo s (((wholeR s).2.1) + 1))) + (((powerR s (runTo s (((wholeR s).2.1) + 1))).1) * n))).1) [])) hS22 extEq (i := 0) rfl (.t rfl) Tryz.isAgg38 Tryz.sizeOf38 rfl rfl) rfl (RL.m rfl rfl ?_))))
          refine RL.st hS22 (i := 1) rfl (.t rfl) (.t rfl) Tryz.sizeOf38 rfl rfl rfl rfl rfl (fun w23 hS24 => ?_)
          refine RL.u (.assign .c) rfl (RL.a rfl rfl (RL.nil (CW.id ?_)))
          refine CW.ret (hE.R3 rfl (.boxN hS24 (i := 1) rfl rfl Tryz.isAgg38 Tryz.sizeOf38) (show RV _ _ _ (.tmp _) _ from rfl) (show RV _ _ _ (.tmp _) _ from rfl) ?_)
          clear hE
          have hq : read1 s = ((mk1 ((byteAt s 0) == 45) ((Eng.sub s ((wholeR s).1) ((wholeR s).2.1)) ++ (Eng.sub s (((wholeR s).2.1) + 1) (runTo s (((wholeR s).2.1) + 1)))) (((((wholeR s).2.1) + 1) - (runTo s (((wholeR s).2.1) + 1))) + (((powerR s (runTo s (((wholeR s).2.1) + 1))).1) * n))).1, 0, (mk1 ((byteAt s 0) == 45) ((Eng.sub s ((wholeR s).1) ((wholeR s).2.1)) ++ (Eng.sub s (((wholeR s).2.1) + 1) (runTo s (((wholeR s).2.1) + 1)))) (((((wholeR s).2.1) + 1) - (runTo s (((wholeR s).2.1) + 1))) + (((powerR s (runTo s (((wholeR s).2.1) + 1))).1) * n))).2) := by
           rw [← readR_eq]
           unfold readR expR
           dsimp only
           rw [if_neg (by first | assumption | omega | (simp_all; done) | grind), if_pos (by first | assumption | omega | (simp_all; done) | grind), if_neg (by first | assumption | omega | (simp_all; done) | grind), if_neg (by first | assumption | omega | (simp_all; done) | grind), if_neg (by first | assumption | omega | (simp_all; done) | grind)]
           rw [hn]
           try rfl
          rw [hq]; exact ⟨rfl, hS24.low⟩
  ·have hpb := powerR_bd (s := s) (i := (wholeR s).2.1) (by omega) (by omega)
   refine CW.skip (CW.id (CW.sr (RL.m rfl rfl (RL.m rfl rfl ?_))))
   refine RL.callE hS3 .none Tryz.call110 (.cons (.t rfl) (.cons (.t rfl) .nil)) (fun _ => (power_c s ((wholeR s).2.1) _ (by omega) (by omega) (by omega))) rfl (fun w25 hS26 => ?_)
   refine RL.m rfl rfl (RL.u (.ex (.t rfl) rfl) rfl (RL.u (.ex (.t rfl) rfl) rfl (RL.u (.ex (.t rfl) rfl) rfl (RL.a rfl rfl (RL.a rfl rfl ?_)))))
   refine RL.a rfl rfl ?_
   refine RL.nil (CW.at [Y 0 (str s), Y 2 (.pointer (some ⟨b2, 0, none⟩)), Y 8 (str (Eng.sub s ((wholeR s).1) ((wholeR s).2.1))), Y 9 (i64 0), Y 11 (i64 ((powerR s ((wholeR s).2.1)).1)), Y 12 (str ((powerR s ((wholeR s).2.1)).2.1)), Y 13 (i64 ((powerR s ((wholeR s).2.1)).2.2))] rfl (CW.seq (CW.sr (RL.m rfl rfl (RL.m rfl rfl (RL.u (.lenS (.t rfl) Tryz.underlying9) rfl (RL.u (.lss (.t rfl) (.t rfl)) rfl (RL.m rfl rfl (RL.v (.neg rfl rfl) (.move (.t rfl)) rfl ?_)))))))))
   refine RL.v (.neg rfl rfl) (.neq (.g rfl (fun h => h)) .c) rfl (RL.v (.neg rfl rfl) (.move (.g rfl (fun h => h))) rfl (RL.v (.posG rfl rfl) (.move (.t rfl)) rfl (RL.v (.posG rfl rfl) (.seql (.g rfl (fun h => h)) .c) rfl (RL.v (.neg rfl rfl) (.and (.g rfl (fun h => h)) (.g rfl (fun h => h))) rfl (RL.u (.or (.t rfl) (.g rfl (fun h => h))) rfl (RL.nil (CW.id ?_)))))))
   refine CW.cond rfl ?_ ?_ <;> intro hb8 <;> try simp only [zb] at hb8
   ·refine CW.sr (RL.u (.build (vs := []) (v := (.agg #[(i64 0), (i64 0), (str []), (str []), (.bool false), (i64 0)])) .nil (fun w => by kernel_rfl)) rfl (RL.m rfl rfl ?_))
    refine RL.st hS26 (i := 0) rfl (.t rfl) (.t rfl) Tryz.sizeOf38 rfl rfl rfl rfl rfl (fun w27 hS28 => ?_)
    refine RL.a rfl rfl (RL.u (.assign .c) rfl (RL.nil (CW.id ?_)))
    refine CW.ret (hE.R3 rfl (.boxN hS28 (i := 0) rfl rfl Tryz.isAgg38 Tryz.sizeOf38) (show RV _ _ _ (.tmp _) _ from rfl) (show RV _ _ _ (.tmp _) _ from rfl) ?_)
    clear hE
    have hq : read1 s = (⟨0, 0, [], [], false, 0⟩, (powerR s ((wholeR s).2.1)).2.2, 1) := by
     rw [← readR_eq]
     unfold readR expR
     dsimp only
     rw [if_neg (by first | assumption | omega | (simp_all; done) | grind), if_neg (by first | assumption | omega | (simp_all; done) | grind), if_pos (by first | assumption | omega | (simp_all; done) | grind)]
     try rfl
    rw [hq]; exact ⟨rfl, hS28.low⟩
   ·refine CW.skip (CW.id (CW.seq (CW.block ?_)))
    refine CW.loop (σ := Str) (fun t => [Y 0 (str s), Y 2 (.pointer (some ⟨b2, 0, none⟩)), Y 8 (str (Eng.sub s ((wholeR s).1) ((wholeR s).2.1))), Y 9 (i64 0), Y 11 (i64 ((powerR s ((wholeR s).2.1)).1)), Y 12 (str t)]) (fun t wl => St w nM wl nM [.box b2 [(i64 0), (i64 0), (str []), (str []), (.bool false), (i64 0)] 38] ∧ dropZ t = dropZ ((powerR s ((wholeR s).2.1)).2.1) ∧ len t ≤ len ((powerR s ((wholeR s).2.1)).2.1)) (fun t => t.length) ((powerR s ((wholeR s).2.1)).2.1) [0, 2, 8, 9, 11, 12] rfl ?_ ?_
    ·refine ⟨hS26, ?_⟩; exact ⟨rfl, Int.le_refl _⟩
    ·rintro t wl ⟨hS29, hF, hl⟩
     have hbt := byteAt_bd t 0
     have hlt := len_nonneg t
     have hfl := from_bd t 1
     refine CW.seq (CW.sr (RL.m rfl rfl (RL.u (.lenS (.t rfl) Tryz.underlying9) rfl (RL.u (.gtr (.t rfl) .c) rfl (RL.m rfl rfl (RL.v (.pos rfl rfl) (.move (.t rfl)) rfl (RL.v (.pos rfl rfl) (.idxS (.g rfl (fun h => h)) .c Tryz.underlying9 (fun hW => by simp only [zb] at hW; first | omega | (rw [len_app]; omega))) rfl (RL.v (.pos rfl rfl) (.eql (.g rfl (fun h => h)) .c) rfl (RL.u (.and (.t rfl) (.g rfl (fun h => h))) rfl (RL.nil (CW.id ?_)))))))))))
     refine CW.cond rfl ?_ ?_ <;> intro hb9 <;> try simp only [zb] at hb9
     ·refine CW.skip (CW.id (CW.block ?_))
      refine CW.region (RL.m rfl rfl (RL.u (.slSl (.t rfl) .c Tryz.underlying9 (fun _ => by first | omega | (rw [len_app]; omega))) rfl (RL.a rfl rfl ?_)))
      refine RL.nil fun a hs => Exists.intro (Eng.from' t 1) ⟨hs.keep [0, 2, 8, 9, 11, 12], ?_, ?_⟩
      ·refine ⟨hS29, ?_⟩
       exact ⟨by rw [dropZ_step (by assumption), hF], by omega⟩
      ·show List.length _ < List.length _; have := from_len t 1 (by omega) (by omega); unfold len at *; omega
     ·have ht : t = dropZ (powerR s ((wholeR s).2.1)).2.1 := by rw [← hF, dropZ_stop (by rintro ⟨h1, h2⟩; rcases hb9 with h | h; exact h h1; exact h h2)]
      have htf : ∀ b ∈ t, isFigB b = true := by rw [ht]; exact figs_drop hpb.2.2.2
      refine CW.exit (CW.at [Y 0 (str s), Y 2 (.pointer (some ⟨b2, 0, none⟩)), Y 8 (str (Eng.sub s ((wholeR s).1) ((wholeR s).2.1))), Y 9 (i64 0), Y 11 (i64 ((powerR s ((wholeR s).2.1)).1)), Y 12 (str t)] rfl ?_)
      refine CW.seq (CW.sr (RL.m rfl rfl (RL.u (.lenS (.t rfl) Tryz.underlying9) rfl (RL.u (.gtr (.t rfl) .c) rfl (RL.nil (CW.id ?_))))))
      refine CW.cond rfl ?_ ?_ <;> intro hb10 <;> try simp only [zb] at hb10
      ·refine CW.sr (RL.u (.build (vs := []) (v := (.agg #[(i64 0), (i64 0), (str []), (str []), (.bool false), (i64 0)])) .nil (fun w => by kernel_rfl)) rfl ?_)
       refine RL.st hS29 (i := 0) rfl (.t rfl) (.t rfl) Tryz.sizeOf38 rfl rfl rfl rfl rfl (fun w30 hS31 => ?_)
       refine RL.u (.assign .c) rfl (RL.u (.assign .c) rfl (RL.nil (CW.id ?_)))
       refine CW.ret (hE.R3 rfl (.boxN hS31 (i := 0) rfl rfl Tryz.isAgg38 Tryz.sizeOf38) (show RV _ _ _ (.tmp _) _ from rfl) (show RV _ _ _ (.tmp _) _ from rfl) ?_)
       clear hE
       have hq : read1 s = (⟨0, 0, [], [], false, 0⟩, 0, 2) := by
        rw [← readR_eq]
        unfold readR expR
        dsimp only
        rw [if_neg (by first | assumption | omega | (simp_all; done) | grind), if_neg (by first | assumption | omega | (simp_all; done) | grind), if_neg (by first | assumption | omega | (simp_all; done) | grind), if_pos (by first | assumption | omega | (simp_all; done) | grind)]
        try rfl
       rw [hq]; exact ⟨rfl, hS31.low⟩
      ·refine CW.skip (CW.id (CW.sr (RL.u (.assign .c) rfl (RL.nil (CW.id ?_)))))
       refine CW.seq (CW.sr (RL.u (.assign .c) rfl (RL.nil (CW.id ?_))))
       refine CW.block ?_
       refine CW.loop (σ := Int × Int) (fun (n, k) => [Y 0 (str s), Y 2 (.pointer (some ⟨b2, 0, none⟩)), Y 8 (str (Eng.sub s ((wholeR s).1) ((wholeR s).2.1))), Y 9 (i64 0), Y 11 (i64 ((powerR s ((wholeR s).2.1)).1)), Y 12 (str t), Y 14 (i64 n), Y 15 (i64 k)]) (fun (n, k) wl => St w nM wl nM [.box b2 [(i64 0), (i64 0), (str []), (str []), (.bool false), (i64 0)] 38] ∧ 0 ≤ k ∧ k ≤ len t ∧ n = decVal (Eng.sub t 0 k)) (fun (n, k) => (len t - k).toNat) ((0, 0)) [0, 2, 8, 9, 11, 12, 14, 15] rfl ?_ ?_
       ·refine ⟨hS29, ?_⟩; exact ⟨by omega, by omega, rfl⟩
       ·rintro ⟨n, k⟩ wl ⟨hS32, hk0, hk1, hn⟩
        have hfk := fun h => figs_at htf hk0 (k := k) h
        have hnb := dec_bd6 htf (by omega) k
        rw [← hn] at hnb
        have hsn := side_bd hpb.1.1 hpb.1.2 hnb.1 hnb.2
        refine CW.seq (CW.sr (RL.m rfl rfl (RL.m rfl rfl (RL.u (.lenS (.t rfl) Tryz.underlying9) rfl (RL.u (.lss (.t rfl) (.t rfl)) rfl (RL.nil (CW.id ?_)))))))
        refine CW.cond rfl ?_ ?_ <;> intro hb11 <;> try simp only [zb] at hb11
        ·refine CW.skip (CW.id (CW.seq (CW.block ?_)))
         refine CW.region (RL.m rfl rfl (RL.u (.mul (.t rfl) .c (fun _ => by first | omega | (rw [len_app]; omega))) rfl (RL.m rfl rfl (RL.m rfl rfl (RL.u (.idxS (.t rfl) (.t rfl) Tryz.underlying9 (fun _ => by first | omega | (rw [len_app]; omega))) rfl (RL.u (.subK (r := (byteAt t k) - 48) (.t rfl) .c (fun _ => by exact Eng.wrap_u8 (by omega))) rfl (RL.u (.cvtK (r := (byteAt t k) - 48) (.t rfl) Tryz.underlying5 Tryz.underlying3 (fun _ => by exact Eng.wrap_i64 (by omega))) rfl (RL.u (.add (.t rfl) (.t rfl) (fun _ => by first | omega | (rw [len_app]; omega))) rfl (RL.a rfl rfl (RL.nil (CW.id ?_)))))))))))
         refine CW.region (RL.m rfl rfl (RL.u (.add (.t rfl) .c (fun _ => by first | omega | (rw [len_app]; omega))) rfl (RL.a rfl rfl ?_)))
         refine RL.nil fun a hs => Exists.intro ((n * 10 + (byteAt t k - 48), k + 1)) ⟨hs.keep [0, 2, 8, 9, 11, 12, 14, 15], ?_, ?_⟩
         ·refine ⟨hS32, ?_⟩
          exact ⟨by omega, by omega, by rw [dec_step hk0 (by omega), ← hn]⟩
         ·show Int.toNat _ < Int.toNat _; omega
        ·have hk : k = len t := by omega
         rw [hk, sub_all t (len t) (Int.le_refl _), ht] at hn
         refine CW.exit (CW.at [Y 0 (str s), Y 2 (.pointer (some ⟨b2, 0, none⟩)), Y 8 (str (Eng.sub s ((wholeR s).1) ((wholeR s).2.1))), Y 9 (i64 0), Y 11 (i64 ((powerR s ((wholeR s).2.1)).1)), Y 14 (i64 n)] rfl ?_)
         refine CW.sr (RL.m rfl rfl (RL.u (.idxS (.t rfl) .c Tryz.underlying9 (fun _ => by first | omega | (rw [len_app]; omega))) rfl (RL.u (.eql (.t rfl) .c) rfl (RL.m rfl rfl (RL.m rfl rfl (RL.m rfl rfl (RL.m rfl rfl (RL.u (.mul (.t rfl) (.t rfl) (fun _ => by first | omega | (rw [len_app]; omega))) rfl (RL.u (.add (.t rfl) (.t rfl) (fun _ => by first | omega | (rw [len_app]; omega))) rfl ?_)))))))))
         refine RL.callE hS32 .none Tryz.call111 (.cons (.t rfl) (.cons (.t rfl) (.cons (.t rfl) .nil))) (fun _ => (make1_c ((byteAt s 0) == 45) (Eng.sub s ((wholeR s).1) ((wholeR s).2.1)) (0 + (((powerR s ((wholeR s).2.1)).1) * n)) _ (by first | omega | (rw [len_app]; omega)))) rfl (fun w33 hS34 => ?_)
         refine RL.m rfl rfl (RL.u (.ex (.t rfl) rfl) rfl (RL.u (.ex (.t rfl) rfl) rfl ?_))
         refine RL.alloc hS34 Tryz.zeroValue38 rfl (fun w35 b36 hS37 => ?_)
         refine RL.st hS37 (i := 0) rfl (.t rfl) (.t rfl) Tryz.sizeOf38 rfl rfl rfl rfl rfl (fun w38 hS39 => ?_)
         refine RL.a rfl rfl ?_
         refine RL.nil (CW.at [Y 2 (.pointer (some ⟨b2, 0, none⟩)), Y 16 (.pointer (some ⟨b36, 0, none⟩)), Y 17 (i64 ((mk1 ((byteAt s 0) == 45) (Eng.sub s ((wholeR s).1) ((wholeR s).2.1)) (0 + (((powerR s ((wholeR s).2.1)).1) * n))).2))] rfl (CW.sr (RL.u (.loadBN (vs := (ndC ((mk1 ((byteAt s 0) == 45) (Eng.sub s ((wholeR s).1) ((wholeR s).2.1)) (0 + (((powerR s ((wholeR s).2.1)).1) * n))).1) [])) hS39 extEq (i := 0) rfl (.t rfl) Tryz.isAgg38 Tryz.sizeOf38 rfl rfl) rfl (RL.m rfl rfl ?_))))
         refine RL.st hS39 (i := 1) rfl (.t rfl) (.t rfl) Tryz.sizeOf38 rfl rfl rfl rfl rfl (fun w40 hS41 => ?_)
         refine RL.u (.assign .c) rfl (RL.a rfl rfl (RL.nil (CW.id ?_)))
         refine CW.ret (hE.R3 rfl (.boxN hS41 (i := 1) rfl rfl Tryz.isAgg38 Tryz.sizeOf38) (show RV _ _ _ (.tmp _) _ from rfl) (show RV _ _ _ (.tmp _) _ from rfl) ?_)
         clear hE
         have hq : read1 s = ((mk1 ((byteAt s 0) == 45) (Eng.sub s ((wholeR s).1) ((wholeR s).2.1)) (0 + (((powerR s ((wholeR s).2.1)).1) * n))).1, 0, (mk1 ((byteAt s 0) == 45) (Eng.sub s ((wholeR s).1) ((wholeR s).2.1)) (0 + (((powerR s ((wholeR s).2.1)).1) * n))).2) := by
          rw [← readR_eq]
          unfold readR expR
          dsimp only
          rw [if_neg (by first | assumption | omega | (simp_all; done) | grind), if_neg (by first | assumption | omega | (simp_all; done) | grind), if_neg (by first | assumption | omega | (simp_all; done) | grind), if_neg (by first | assumption | omega | (simp_all; done) | grind)]
          rw [hn]
          try rfl
         rw [hq]; exact ⟨rfl, hS41.low⟩

end Go.Proofs.YtjfaikgooldcbaaGreatDoor
set_option maxRecDepth 100000
namespace Go.Proofs.YtjfaikgooldcbaaGreatDoor
open Go.Eng

theorem has_eq {s t : Str} {i : Int} (h0 : 0 ≤ i) (h1 : i ≤ len s) : (decide (i + len t ≤ len s) && (Eng.sub s i (i + len t) == t)) = hasW s i t := by
  unfold hasW
  rw [← Lib.hasPrefix_of_take]
  have hl : (from' s i).length = s.length - i.toNat := by unfold from'; simp
  have e : Eng.sub s i (i + len t) = (from' s i).take t.length := by
    unfold Eng.sub from'
    congr 1
    unfold len; omega
  rw [e]
  congr 1
  rw [hl]; unfold len at *
  by_cases h : t.length ≤ s.length - i.toNat <;> simp [h] <;> omega
theorem has4_c (s t : Str) (i : Int) (w : World) (h0 : 0 ≤ i) (h1 : i ≤ len s) (hb : len s ≤ 1099511627776) (ht : len t ≤ 1099511627776) :
  Calls Tryz.prog 47 [str s, i64 i, str t].toArray w fun e w' => e = .returned (.bool (hasW s i t)) ∧ Ext w w' := by
 refine xenter ttok Tryz.func47 rfl Tryz.ntmps47 [] [] [.v (str s), I i, .v (str t)] rfl (st0 w) fnil (fun B hB => ?_) rfl
 have := len_nonneg t
 exact xret hB rfl rfl (eok rfl) (by simp only [zb] <;> omega) rfl (eok rfl) fun w M hX => ⟨by rw [← has_eq h0 h1]; rfl, hX.st.low⟩
theorem bad4_c (c p : Int) (w : World) :
  Calls Tryz.prog 48 [i64 c, i64 p].toArray w fun e w' => e = .returned (.agg #[.slice none 0 0, i64 p, i64 c]) ∧ Ext w w' := by
 refine xenter ttok Tryz.func48 rfl Tryz.ntmps48 [] [] [I c, I p] rfl (st0 w) fnil (fun B hB => ?_) rfl
 refine xalloc 0 rfl (eok rfl) (by omega) Tryz.zeroValue59 rfl fun b => ?_
 refine xret hB rfl rfl (eok rfl) (by omega) rfl (eok rfl) fun w M hX => ⟨by rfl, hX.st.low⟩
/-- What is read, as it is handed back. -/
def gotR (r : PR Vl) : Vl × Int × Int := match r with
  | .ok x j => (x, j, 0)
  | .er e p => ([], p, e)
abbrev GotC (w : World) (M : Mem) (r : PR Vl) : Ending → World → Prop := MRet w M (fun h : SlH => .agg #[h.v, i64 (gotR r).2.1, i64 (gotR r).2.2]) (fun _ => True) fun h => [(0, kn h.v 6 (gotR r).1 Nd.cells)]
theorem GotC.er {w w' : World} {M : Mem} {r : PR Vl} {e p : Int} (hM : Sat w M) (h : r = .er e p) (hw : Ext w w') : GotC w M r (.returned (.agg #[.slice none 0 0, i64 p, i64 e])) w' := by
  subst h; exact ⟨⟨none, 0, 0⟩, M, rfl, trivial, Grow.of_ext hM hw, fcons ⟨Sl.nil M 6, Nd.cells_len, trivial⟩ fnil⟩
theorem GotC.ok {w w' : World} {M M' : Mem} {r : PR Vl} {v : Value} {x : Vl} {j : Int} (h : r = .ok x j) (hg : Grow w M w' M') (hv : Sl M' 6 x.length v (x.flatMap Nd.cells)) : GotC w M r (.returned (.agg #[v, i64 j, i64 0])) w' := by
  subst h; obtain ⟨a, c, rfl⟩ := hv.shape; exact ⟨⟨a, _, c⟩, M', rfl, trivial, hg, fc 0 hv Nd.cells_len fnil⟩
def isNumI (x : Int) : Bool := decide (48 ≤ x) && decide (x ≤ 57) || x == 43 || x == 45 || x == 46 || x == 101 || x == 69
theorem isNum_all : ∀ n : Fin 256, isNumI (n.val : Int) = isNumB (n.val).toUInt8 := by decide +kernel
theorem isNum_eq (b : UInt8) : isNumI (b.toNat : Int) = isNumB b := by
  have := isNum_all ⟨b.toNat, b.toNat_lt⟩
  simpa using this
theorem numTo_step {s : Str} {i : Int} (h0 : 0 ≤ i) (h1 : i < len s) (h : isNumI (byteAt s i) = true) : numTo s (i + 1) = numTo s i := by
  obtain ⟨b, h2, h3⟩ := from_cons s i h0 h1
  unfold numTo
  rw [h2, List.takeWhile_cons, ← isNum_eq, ← h3, h]
  simp [len]; omega
theorem numTo_stop {s : Str} {i : Int} (h0 : 0 ≤ i) (h1 : i < len s) (h : isNumI (byteAt s i) = false) : numTo s i = i := by
  obtain ⟨b, h2, h3⟩ := from_cons s i h0 h1
  unfold numTo
  rw [h2, List.takeWhile_cons, ← isNum_eq, ← h3, h]
  simp [len]
theorem numTo_end {s : Str} {i : Int} (h1 : len s ≤ i) : numTo s i = i := by
  unfold numTo; rw [from_nil s i h1]; simp [len]
theorem numTo_sub {s : Str} {i : Int} (h0 : 0 ≤ i) (h1 : i ≤ len s) : Eng.sub s i (numTo s i) = Eng.runN (from' s i) ∧ numTo s i = i + len (Eng.runN (from' s i)) ∧ i ≤ numTo s i ∧ numTo s i ≤ len s := by
  have hf := from_len s i h0 h1
  have hp := (List.takeWhile_prefix isNumB (l := from' s i))
  have hle := hp.length_le
  have e := runN_take (from' s i)
  have hn : numTo s i = i + len (Eng.runN (from' s i)) := by rw [e]; rfl
  refine ⟨?_, hn, by rw [hn]; have := len_nonneg (Eng.runN (from' s i)); omega, by rw [hn, e]; unfold len at *; omega⟩
  rw [hn, e]
  unfold Eng.sub
  have h3 : (i + len ((from' s i).takeWhile isNumB)).toNat - i.toNat = ((from' s i).takeWhile isNumB).length := by unfold len; omega
  rw [h3]
  exact (List.prefix_iff_eq_take.1 hp).symm
theorem number4_c (s : Str) (i : Int) (w : World) (M : Mem) (hM : Sat w M) (h0 : 0 ≤ i) (h1 : i ≤ len s) (hb : len s ≤ 1099511627776) :
  Calls Tryz.prog 50 [str s, i64 i].toArray w (GotC w M (numT s i)) := by
 refine xenter ttok Tryz.func50 rfl Tryz.ntmps50 [] [] [.v (str s), I i] rfl (St.start hM) fnil (fun B hB => ?_) rfl
 obtain ⟨hs1, hs2, hs3, hs4⟩ := numTo_sub h0 h1
 refine xalloc 0 rfl (eok rfl) (by omega) Tryz.zeroValue59 rfl fun b => ?_
 refine xloop (fun tz => ⟨[], [(0, .box b [.v (.slice none 0 0), I 0, I 0] 59)], [Z 0 (.v (str s)), Z 1 (I i), Z 4 (.bx 0 b 0), Z 5 (I tz)]⟩) (fun tz => numTo s tz = numTo s i ∧ i ≤ tz ∧ tz ≤ len s) (fun tz => (len s - tz).toNat) i rfl (eok rfl) (by omega) rfl ⟨rfl, by omega, h1⟩ ?_
 rintro tz ⟨hT, ht0, ht1⟩
 refine xbr rfl (eok rfl) (by simp only [zb] <;> omega) (fun hb1 => ?_) (fun hb1 => ?_)
 ·have hlt : tz < len s ∧ isNumI (byteAt s tz) = true := by unfold isNumI; simp only [zb] at hb1 ⊢; omega
  exact xround (tz + 1) rfl (eok rfl) (by omega) rfl ⟨(numTo_step (by omega) hlt.1 hlt.2).trans hT, by omega, by omega⟩ (by show Int.toNat _ < Int.toNat _; omega)
 ·have hto : tz = numTo s i := by
   rw [← hT]
   by_cases hlt : tz < len s
   · exact (numTo_stop (by omega) hlt (by unfold isNumI; simp only [zb] at hb1 ⊢; omega)).symm
   · exact (numTo_end (by omega)).symm
  subst hto
  refine xcall rfl (eok rfl) (by omega) Tryz.call78 rfl rfl (eok rfl) (fun _ w M hX => read3_c (Eng.sub s i (numTo s i)) w (by rw [hs1]; have := (runN_le (from' s i)).2; have := (from_bd s i).2; omega)) rfl ?_
  refine xalloc 1 rfl (eok rfl) (by omega) Tryz.zeroValue38 rfl fun b1 => ?_
  have hrr := read1_bd (Eng.runN (from' s i))
  refine xbr rfl (eok rfl) (by omega) (fun hb2 => ?_) (fun hb2 => ?_) <;> simp only [zb] at hb2
  ·refine xcall rfl (eok rfl) (by rw [hs1]; omega) Tryz.call48 rfl rfl (eok rfl) (fun _ w M hX => bad4_c _ _ w) rfl ?_
   refine xret hB rfl rfl (eok rfl) (by omega) rfl (eok rfl) fun w M hX => ?_
   rw [hs1] at hb2 ⊢
   exact GotC.er hM (numT_er hb2) hX.st.low
  ·refine xlit 2 [(read1 (Eng.sub s i (numTo s i))).1] Nd.cells 6 38 Nd.cells_len rfl (eok rfl) (by omega) rfl (eok rfl) (fun w => by kernel_rfl) rfl fun v => ?_
   refine xret hB rfl rfl (eok rfl) (by omega) rfl (eok rfl) fun w M hX => ?_
   rw [hs1] at hb2
   refine GotC.ok (numT_ok (show (read1 (Eng.runN (from' s i))).2.2 = 0 by omega)) hX.st.done (by have := hX.sl 2 rfl; rw [hs1] at this; exact this) |> fun h => ?_
   rw [← hs2] at h; exact h
end Go.Proofs.YtjfaikgooldcbaaGreatDoor
namespace Go.Eng
open Go.RowKit

/-- n times two blanks -/
def twoN : Nat → Str
  | 0 => []
  | n + 1 => 32 :: 32 :: twoN n
theorem twoN_len (n : Nat) : len (twoN n) = 2 * n := by
  induction n with
  | zero => rfl
  | succ n ih => rw [twoN, len_cons, len_cons, ih]; omega
inductive Tr where
  | mk (n : Nd) (ps : List Tr)
mutual
def Tr.flat : Tr → List Nd
  | .mk n ps => n :: flatL ps
def flatL : List Tr → List Nd
  | [] => []
  | t :: ts => t.flat ++ flatL ts
end
def Tr.node : Tr → Nd | .mk n _ => n
def Tr.parts : Tr → List Tr | .mk _ ps => ps
mutual
def Tr.ok : Tr → Prop
  | .mk n ps => (n.kind < 5 → ps = []) ∧ (5 ≤ n.kind → n.many = len ps) ∧ (len n.s ≤ 1099511627776 ∧ len n.name ≤ 1099511627776 ∧ -1000000 ≤ n.e ∧ n.e ≤ 1000000) ∧ okL ps
def okL : List Tr → Prop
  | [] => True
  | t :: ts => t.ok ∧ okL ts
end
mutual
def Tr.size : Tr → Nat
  | .mk _ ps => 1 + sizeL ps
def sizeL : List Tr → Nat
  | [] => 0
  | t :: ts => t.size + sizeL ts
end
mutual
theorem Tr.flat_len : (t : Tr) → t.flat.length = t.size
  | .mk n ps => by rw [Tr.flat, Tr.size, List.length_cons, flatL_len ps]; omega
theorem flatL_len : (l : List Tr) → (flatL l).length = sizeL l
  | [] => rfl
  | t :: ts => by rw [flatL, sizeL, List.length_append, Tr.flat_len t, flatL_len ts]
end
theorem sizeL_app (a b : List Tr) : sizeL (a ++ b) = sizeL a + sizeL b := by
  induction a with
  | nil => simp [sizeL]
  | cons x a ih => rw [List.cons_append, sizeL, sizeL, ih]; omega
theorem Tr.size_pos (t : Tr) : 1 ≤ t.size := by cases t; rw [Tr.size]; omega
theorem len_le_sizeL (l : List Tr) : len l ≤ sizeL l := by
  induction l with
  | nil => exact Int.le_refl _
  | cons t l ih => rw [len_cons, sizeL]; have := t.size_pos; omega
theorem Tr.ok_node {t : Tr} (h : t.ok) : len t.node.s ≤ 1099511627776 ∧ len t.node.name ≤ 1099511627776 := by
  cases t; rw [Tr.ok] at h; exact ⟨h.2.2.1.1, h.2.2.1.2.1⟩
def scalarP (n : Nd) : Str :=
  if n.kind = 0 then [110, 117, 108, 108] else if n.kind = 1 then [102, 97, 108, 115, 101] else if n.kind = 2 then [116, 114, 117, 101] else if n.kind = 3 then print1 n else quoteP n.s
def lineP (ln : Bool) (d : Int) : Str := if ln then 10 :: twoN d.toNat else []
def nameP (ln : Bool) (n : Nd) : Str := quoteP n.name ++ 58 :: (if ln then [32] else [])
theorem nameP_len (ln : Bool) (n : Nd) : len (quoteP n.name) + 1 ≤ len (nameP ln n) ∧ (ln = true → len (quoteP n.name) + 2 ≤ len (nameP ln n)) := by
  unfold nameP; rw [len_app, len_cons]
  cases ln
  · exact ⟨by simp only [Bool.false_eq_true, if_false, len_nil]; omega, fun h => by cases h⟩
  · exact ⟨by simp only [if_true, len_cons, len_nil]; omega, fun _ => by simp only [if_true, len_cons, len_nil]; omega⟩
def marksP (k : Int) : UInt8 × UInt8 := if k = 6 then (123, 125) else (91, 93)
mutual
def prt (ln : Bool) : Int → Tr → Str
  | d, .mk n ps => if n.kind < 5 then scalarP n else (marksP n.kind).1 :: prtL ln d (n.kind == 6) true ps ++ (if ps.isEmpty then [] else lineP ln d) ++ [(marksP n.kind).2]
def prtL (ln : Bool) : Int → Bool → Bool → List Tr → Str
  | _, _, _, [] => []
  | d, ob, f, t :: ts => (if f then [] else [44]) ++ (lineP ln (d + 1) ++ ((if ob then nameP ln t.node else []) ++ (prt ln (d + 1) t ++ prtL ln d ob false ts)))
end
/-- A tree stands at a place. -/
def SegAt (v : List Nd) (i : Int) (t : Tr) : Prop := 0 ≤ i ∧ ∃ pre post, v = pre ++ (t.flat ++ post) ∧ len pre = i
def SegL (v : List Nd) (i : Int) (l : List Tr) : Prop := 0 ≤ i ∧ ∃ pre post, v = pre ++ (flatL l ++ post) ∧ len pre = i
theorem SegAt.head {v : List Nd} {i : Int} {n : Nd} {ps : List Tr} (h : SegAt v i (.mk n ps)) : 0 ≤ i ∧ i < len v ∧ at' v i = n := by
  obtain ⟨h0, pre, post, rfl, rfl⟩ := h
  refine ⟨h0, ?_, ?_⟩
  · rw [Tr.flat]; unfold len; simp only [List.length_append, List.length_cons]; omega
  · rw [Tr.flat]; unfold at'; unfold len; simp
theorem SegAt.kids {v : List Nd} {i : Int} {n : Nd} {ps : List Tr} (h : SegAt v i (.mk n ps)) : SegL v (i + 1) ps := by
  obtain ⟨h0, pre, post, rfl, rfl⟩ := h
  exact ⟨by omega, pre ++ [n], post, by rw [Tr.flat]; simp, by unfold len; simp⟩
theorem SegL.first {v : List Nd} {i : Int} {t : Tr} {ts : List Tr} (h : SegL v i (t :: ts)) : SegAt v i t := by
  obtain ⟨h0, pre, post, rfl, rfl⟩ := h
  exact ⟨h0, pre, flatL ts ++ post, by rw [flatL]; simp, rfl⟩
theorem SegL.rest {v : List Nd} {i : Int} {t : Tr} {ts : List Tr} (h : SegL v i (t :: ts)) : SegL v (i + t.size) ts := by
  obtain ⟨h0, pre, post, rfl, rfl⟩ := h
  exact ⟨by omega, pre ++ t.flat, post, by rw [flatL]; simp, by unfold len; rw [List.length_append, Tr.flat_len]; omega⟩
theorem SegAt.top (t : Tr) : SegAt t.flat 0 t := ⟨Int.le_refl _, [], [], by simp, rfl⟩
theorem SegAt.node {v : List Nd} {i : Int} {t : Tr} (h : SegAt v i t) : 0 ≤ i ∧ i < len v ∧ at' v i = t.node := by cases t; exact h.head
theorem SegAt.size_le {v : List Nd} {i : Int} {t : Tr} (h : SegAt v i t) : i + t.size ≤ len v := by
  obtain ⟨h0, pre, post, rfl, rfl⟩ := h
  unfold len; simp only [List.length_append, Tr.flat_len]; omega
end Go.Eng
