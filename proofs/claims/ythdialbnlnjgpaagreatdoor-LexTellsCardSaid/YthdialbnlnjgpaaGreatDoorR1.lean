import Derived.Test.YthdialbnlnjgpaaGreatDoorEngL
import Derived.Laws.BitsLemmas
import Derived.Test.YthdialbnlnjgpaaGreatDoorPure
import Derived.Test.YthdialbnlnjgpaaGreatDoorProg
set_option linter.unusedVariables false
set_option linter.unusedSimpArgs false
namespace Go.Proofs.YthdialbnlnjgpaaGreatDoor
open Go.Eng

theorem tryz_mixed : Tryz.prog.follows .mixedOrders = true := by kernel_rfl
/- loupe/louperef02.cont -/
set_option maxRecDepth 100000 in
theorem cont_c (s : Str) (i : Int) (w : World) (h0 : 0 ≤ i) :
  Calls Tryz.prog 100 [(str s), (i64 i)].toArray w fun e w' => e = .returned (.bool (cont s i)) ∧ w' = w := by
 refine CW.enter Tryz.func100 rfl Tryz.ntmps100 (Nat.le_of_ble_eq_true rfl) ?_
 refine CW.weaken [0, 1] (L' := [Y 0 (str s), Y 1 (i64 i)]) ?_ rfl
 refine CW.sr ?_
 refine RL.u (.assign .c) rfl ?_
 refine RL.nil (CW.at [Y 0 (str s), Y 1 (i64 i)] rfl ?_)
 refine CW.sr ?_
 refine RL.m rfl rfl (RL.m rfl rfl (RL.u (.lenS (.t rfl) Tryz.underlying9) rfl (RL.u (.lss (.t rfl) (.t rfl)) rfl (RL.m rfl rfl (RL.v (.pos rfl rfl) (.move (.t rfl)) rfl ?_)))))
 refine RL.v (.pos rfl rfl) (.move (.t rfl)) rfl (RL.v (.pos rfl rfl) (.idxS (.g rfl (fun h => h)) (.g rfl (fun h => h)) Tryz.underlying9 (fun hW => by simp only [zb] at hW; omega)) rfl (RL.v (.pos rfl rfl) (.geq (.g rfl (fun h => h)) .c) rfl (RL.u (.and (.t rfl) (.g rfl (fun h => h))) rfl (RL.m rfl rfl (RL.v (.pos rfl rfl) (.move (.t rfl)) rfl ?_)))))
 refine RL.v (.pos rfl rfl) (.move (.t rfl)) rfl (RL.v (.pos rfl rfl) (.idxS (.g rfl (fun h => h)) (.g rfl (fun h => h)) Tryz.underlying9 (fun hW => by simp only [zb] at hW; omega)) rfl (RL.v (.pos rfl rfl) (.lss (.g rfl (fun h => h)) .c) rfl (RL.u (.and (.t rfl) (.g rfl (fun h => h))) rfl (RL.a rfl rfl ?_))))
 refine RL.nil (CW.at [Y 4 (.bool (((decide ((i) < (len (s)))) && (decide ((128) ≤ (byteAt (s) (i))))) && (decide ((byteAt (s) (i)) < (192)))))] rfl ?_)
 refine CW.ret (ret1 (P := Tryz.prog) (fn := Tryz.f100) (R := fun e w' => e = .returned (.bool (cont s i)) ∧ w' = w) rfl rfl ?_)
 exact ⟨rfl, rfl⟩

/- loupe/louperef02.Rune -/
set_option maxRecDepth 100000 in
theorem rune_c (s : Str) (i : Int) (w : World) (h0 : 0 ≤ i) (h1 : i < len s) (hb : len s ≤ 9223372036854775807) :
  Calls Tryz.prog 70 [(str s), (i64 i)].toArray w fun e w' => e = .returned (i64 (rune s i)) ∧ w' = w := by
 refine CW.enter Tryz.func70 rfl Tryz.ntmps70 (Nat.le_of_ble_eq_true rfl) ?_
 have hbd := byteAt_bd s i
 refine CW.weaken [0, 1] (L' := [Y 0 (str s), Y 1 (i64 i)]) ?_ rfl
 refine CW.sr ?_
 refine RL.u (.assign .c) rfl ?_
 refine RL.nil (CW.at [Y 0 (str s), Y 1 (i64 i)] rfl ?_)
 refine CW.sr ?_
 refine RL.m rfl rfl (RL.m rfl rfl (RL.u (.idxS (.t rfl) (.t rfl) Tryz.underlying9 (fun _ => by first | omega | (unfold cont at *; simp only [zb] at *; omega))) rfl (RL.a rfl rfl ?_)))
 refine RL.nil (CW.at [Y 0 (str s), Y 1 (i64 i), Y 5 (.int .u8 (byteAt (s) (i)))] rfl ?_)
 refine CW.seq ?_
 refine CW.block ?_
 refine CW.sr ?_
 refine RL.m rfl rfl (RL.u (.lss (.t rfl) .c) rfl (RL.a rfl rfl ?_))
 refine RL.nil (CW.at [Y 0 (str s), Y 1 (i64 i), Y 5 (.int .u8 (byteAt (s) (i))), Y 9 (.bool (decide ((byteAt (s) (i)) < (128))))] rfl ?_)
 refine CW.cond rfl (fun hb1 => ?_) (fun hb1 => ?_)
 ·try simp only [zb] at hb1
  refine CW.sr ?_
  refine RL.u (.assign .c) rfl ?_
  refine RL.nil (CW.at [Y 4 (i64 1)] rfl ?_)
  refine CW.ret (ret1 (P := Tryz.prog) (fn := Tryz.f70) (R := fun e w' => e = .returned (i64 (rune s i)) ∧ w' = w) rfl rfl ?_)
  refine ⟨congrArg (fun x => Ending.returned (i64 x)) ?_, rfl⟩
  unfold rune; (try dsimp only); (repeat' split)
  all_goals first | rfl | (exfalso; simp only [zb] at *; omega) | (exfalso; simp_all; done) | (exfalso; simp_all; omega)
 ·try simp only [zb] at hb1
  refine CW.sr ?_
  refine RL.m rfl rfl (RL.u (.geq (.t rfl) .c) rfl (RL.m rfl rfl (RL.v (.pos rfl rfl) (.move (.t rfl)) rfl (RL.v (.pos rfl rfl) (.lss (.g rfl (fun h => h)) .c) rfl (RL.u (.and (.t rfl) (.g rfl (fun h => h))) rfl ?_)))))
  refine RL.m rfl rfl (RL.v (.pos rfl rfl) (.move (.t rfl)) rfl (RL.v (.pos rfl rfl) (.move (.t rfl)) rfl (RL.v (.pos rfl rfl) (.add (.g rfl (fun h => h)) .c (fun hW => by simp only [zb] at hW; first | omega | (unfold cont at *; simp only [zb] at *; omega))) rfl ?_)))
  refine RL.callS (.pos rfl rfl) Tryz.call100 (.cons (.g rfl (fun h => h)) (.cons (.g rfl (fun h => h)) .nil)) (fun hW => by simp only [zb] at hW; exact (cont_c (s) ((i) + (1)) _ (by omega))) rfl ?_
  refine RL.u (.and (.t rfl) (.g rfl (fun h => h))) rfl (RL.a rfl rfl ?_)
  refine RL.nil (CW.at [Y 0 (str s), Y 1 (i64 i), Y 5 (.int .u8 (byteAt (s) (i))), Y 12 (.bool (((decide ((194) ≤ (byteAt (s) (i)))) && (decide ((byteAt (s) (i)) < (224)))) && (cont (s) ((i) + (1)))))] rfl ?_)
  refine CW.cond rfl (fun hb2 => ?_) (fun hb2 => ?_)
  ·try simp only [zb] at hb2
   refine CW.sr ?_
   refine RL.u (.assign .c) rfl ?_
   refine RL.nil (CW.at [Y 4 (i64 2)] rfl ?_)
   refine CW.ret (ret1 (P := Tryz.prog) (fn := Tryz.f70) (R := fun e w' => e = .returned (i64 (rune s i)) ∧ w' = w) rfl rfl ?_)
   refine ⟨congrArg (fun x => Ending.returned (i64 x)) ?_, rfl⟩
   unfold rune; (try dsimp only); (repeat' split)
   all_goals first | rfl | (exfalso; simp only [zb] at *; omega) | (exfalso; simp_all; done) | (exfalso; simp_all; omega)
  ·try simp only [zb] at hb2
   refine CW.sr ?_
   refine RL.m rfl rfl (RL.u (.geq (.t rfl) .c) rfl (RL.m rfl rfl (RL.v (.pos rfl rfl) (.move (.t rfl)) rfl (RL.v (.pos rfl rfl) (.lss (.g rfl (fun h => h)) .c) rfl (RL.u (.and (.t rfl) (.g rfl (fun h => h))) rfl ?_)))))
   refine RL.m rfl rfl (RL.v (.pos rfl rfl) (.move (.t rfl)) rfl (RL.v (.pos rfl rfl) (.move (.t rfl)) rfl (RL.v (.pos rfl rfl) (.add (.g rfl (fun h => h)) .c (fun hW => by simp only [zb] at hW; first | omega | (unfold cont at *; simp only [zb] at *; omega))) rfl ?_)))
   refine RL.callS (.pos rfl rfl) Tryz.call100 (.cons (.g rfl (fun h => h)) (.cons (.g rfl (fun h => h)) .nil)) (fun hW => by simp only [zb] at hW; exact (cont_c (s) ((i) + (1)) _ (by omega))) rfl ?_
   refine RL.u (.and (.t rfl) (.g rfl (fun h => h))) rfl (RL.m rfl rfl (RL.v (.pos rfl rfl) (.move (.t rfl)) rfl (RL.v (.pos rfl rfl) (.move (.t rfl)) rfl (RL.v (.pos rfl rfl) (.add (.g rfl (fun h => h)) .c (fun hW => by simp only [zb] at hW; first | omega | (unfold cont at *; simp only [zb] at *; omega))) rfl ?_))))
   refine RL.callS (.pos rfl rfl) Tryz.call100 (.cons (.g rfl (fun h => h)) (.cons (.g rfl (fun h => h)) .nil)) (fun hW => by simp only [zb] at hW; exact (cont_c (s) ((i) + (2)) _ (by omega))) rfl ?_
   refine RL.u (.and (.t rfl) (.g rfl (fun h => h))) rfl (RL.a rfl rfl ?_)
   refine RL.nil (CW.at [Y 0 (str s), Y 1 (i64 i), Y 5 (.int .u8 (byteAt (s) (i))), Y 25 (.bool ((((decide ((224) ≤ (byteAt (s) (i)))) && (decide ((byteAt (s) (i)) < (240)))) && (cont (s) ((i) + (1)))) && (cont (s) ((i) + (2)))))] rfl ?_)
   refine CW.cond rfl (fun hb3 => ?_) (fun hb3 => ?_)
   ·try simp only [zb] at hb3
    refine CW.seq ?_
    refine CW.sr ?_
    refine RL.m rfl rfl (RL.u (.eql (.t rfl) .c) rfl (RL.m rfl rfl (RL.v (.pos rfl rfl) (.move (.t rfl)) rfl (RL.v (.pos rfl rfl) (.move (.t rfl)) rfl (RL.v (.pos rfl rfl) (.add (.g rfl (fun h => h)) .c (fun hW => by simp only [zb] at hW; first | omega | (unfold cont at *; simp only [zb] at *; omega))) rfl ?_)))))
    refine RL.v (.pos rfl rfl) (.idxS (.g rfl (fun h => h)) (.g rfl (fun h => h)) Tryz.underlying9 (fun hW => by simp only [zb] at hW; first | omega | (unfold cont at *; simp only [zb] at *; omega))) rfl (RL.v (.pos rfl rfl) (.lss (.g rfl (fun h => h)) .c) rfl (RL.u (.and (.t rfl) (.g rfl (fun h => h))) rfl (RL.m rfl rfl (RL.v (.neg rfl rfl) (.move (.t rfl)) rfl (RL.v (.neg rfl rfl) (.eql (.g rfl (fun h => h)) .c) rfl ?_)))))
    refine RL.v (.neg rfl rfl) (.move (.g rfl (fun h => h))) rfl (RL.v (.posG rfl rfl) (.move (.t rfl)) rfl (RL.v (.posG rfl rfl) (.move (.t rfl)) rfl (RL.v (.posG rfl rfl) (.add (.g rfl (fun h => h)) .c (fun hW => by simp only [zb] at hW; first | omega | (unfold cont at *; simp only [zb] at *; omega))) rfl (RL.v (.posG rfl rfl) (.idxS (.g rfl (fun h => h)) (.g rfl (fun h => h)) Tryz.underlying9 (fun hW => by simp only [zb] at hW; first | omega | (unfold cont at *; simp only [zb] at *; omega))) rfl (RL.v (.posG rfl rfl) (.geq (.g rfl (fun h => h)) .c) rfl ?_)))))
    refine RL.v (.neg rfl rfl) (.and (.g rfl (fun h => h)) (.g rfl (fun h => h))) rfl (RL.u (.or (.t rfl) (.g rfl (fun h => h))) rfl ?_)
    refine RL.nil (CW.at [Y 63 (.bool ((((byteAt (s) (i)) == (224)) && (decide ((byteAt (s) ((i) + (1))) < (160)))) || (((byteAt (s) (i)) == (237)) && (decide ((160) ≤ (byteAt (s) ((i) + (1))))))))] rfl ?_)
    refine CW.cond rfl (fun hb4 => ?_) (fun hb4 => ?_)
    ·try simp only [zb] at hb4
     refine CW.sr ?_
     refine RL.u (.assign .c) rfl ?_
     refine RL.nil (CW.at [Y 4 (i64 0)] rfl ?_)
     refine CW.ret (ret1 (P := Tryz.prog) (fn := Tryz.f70) (R := fun e w' => e = .returned (i64 (rune s i)) ∧ w' = w) rfl rfl ?_)
     refine ⟨congrArg (fun x => Ending.returned (i64 x)) ?_, rfl⟩
     unfold rune; (try dsimp only); (repeat' split)
     all_goals first | rfl | (exfalso; simp only [zb] at *; omega) | (exfalso; simp_all; done) | (exfalso; simp_all; omega)
    ·try simp only [zb] at hb4
     refine CW.skip (CW.at [] rfl ?_)
     refine CW.sr ?_
     refine RL.u (.assign .c) rfl ?_
     refine RL.nil (CW.at [Y 4 (i64 3)] rfl ?_)
     refine CW.ret (ret1 (P := Tryz.prog) (fn := Tryz.f70) (R := fun e w' => e = .returned (i64 (rune s i)) ∧ w' = w) rfl rfl ?_)
     refine ⟨congrArg (fun x => Ending.returned (i64 x)) ?_, rfl⟩
     unfold rune; (try dsimp only); (repeat' split)
     all_goals first | rfl | (exfalso; simp only [zb] at *; omega) | (exfalso; simp_all; done) | (exfalso; simp_all; omega)
   ·try simp only [zb] at hb3
    refine CW.sr ?_
    refine RL.m rfl rfl (RL.u (.geq (.t rfl) .c) rfl (RL.m rfl rfl (RL.v (.pos rfl rfl) (.move (.t rfl)) rfl (RL.v (.pos rfl rfl) (.lss (.g rfl (fun h => h)) .c) rfl (RL.u (.and (.t rfl) (.g rfl (fun h => h))) rfl ?_)))))
    refine RL.m rfl rfl (RL.v (.pos rfl rfl) (.move (.t rfl)) rfl (RL.v (.pos rfl rfl) (.move (.t rfl)) rfl (RL.v (.pos rfl rfl) (.add (.g rfl (fun h => h)) .c (fun hW => by simp only [zb] at hW; first | omega | (unfold cont at *; simp only [zb] at *; omega))) rfl ?_)))
    refine RL.callS (.pos rfl rfl) Tryz.call100 (.cons (.g rfl (fun h => h)) (.cons (.g rfl (fun h => h)) .nil)) (fun hW => by simp only [zb] at hW; exact (cont_c (s) ((i) + (1)) _ (by omega))) rfl ?_
    refine RL.u (.and (.t rfl) (.g rfl (fun h => h))) rfl (RL.m rfl rfl (RL.v (.pos rfl rfl) (.move (.t rfl)) rfl (RL.v (.pos rfl rfl) (.move (.t rfl)) rfl (RL.v (.pos rfl rfl) (.add (.g rfl (fun h => h)) .c (fun hW => by simp only [zb] at hW; first | omega | (unfold cont at *; simp only [zb] at *; omega))) rfl ?_))))
    refine RL.callS (.pos rfl rfl) Tryz.call100 (.cons (.g rfl (fun h => h)) (.cons (.g rfl (fun h => h)) .nil)) (fun hW => by simp only [zb] at hW; exact (cont_c (s) ((i) + (2)) _ (by omega))) rfl ?_
    refine RL.u (.and (.t rfl) (.g rfl (fun h => h))) rfl (RL.m rfl rfl (RL.v (.pos rfl rfl) (.move (.t rfl)) rfl (RL.v (.pos rfl rfl) (.move (.t rfl)) rfl (RL.v (.pos rfl rfl) (.add (.g rfl (fun h => h)) .c (fun hW => by simp only [zb] at hW; first | omega | (unfold cont at *; simp only [zb] at *; omega))) rfl ?_))))
    refine RL.callS (.pos rfl rfl) Tryz.call100 (.cons (.g rfl (fun h => h)) (.cons (.g rfl (fun h => h)) .nil)) (fun hW => by simp only [zb] at hW; exact (cont_c (s) ((i) + (3)) _ (by omega))) rfl ?_
    refine RL.u (.and (.t rfl) (.g rfl (fun h => h))) rfl (RL.a rfl rfl ?_)
    refine RL.nil (CW.at [Y 0 (str s), Y 1 (i64 i), Y 5 (.int .u8 (byteAt (s) (i))), Y 64 (.bool (((((decide ((240) ≤ (byteAt (s) (i)))) && (decide ((byteAt (s) (i)) < (245)))) && (cont (s) ((i) + (1)))) && (cont (s) ((i) + (2)))) && (cont (s) ((i) + (3)))))] rfl ?_)
    refine CW.cond rfl (fun hb5 => ?_) (fun hb5 => ?_)
    ·try simp only [zb] at hb5
     refine CW.seq ?_
     refine CW.sr ?_
     refine RL.m rfl rfl (RL.u (.eql (.t rfl) .c) rfl (RL.m rfl rfl (RL.v (.pos rfl rfl) (.move (.t rfl)) rfl (RL.v (.pos rfl rfl) (.move (.t rfl)) rfl (RL.v (.pos rfl rfl) (.add (.g rfl (fun h => h)) .c (fun hW => by simp only [zb] at hW; first | omega | (unfold cont at *; simp only [zb] at *; omega))) rfl ?_)))))
     refine RL.v (.pos rfl rfl) (.idxS (.g rfl (fun h => h)) (.g rfl (fun h => h)) Tryz.underlying9 (fun hW => by simp only [zb] at hW; first | omega | (unfold cont at *; simp only [zb] at *; omega))) rfl (RL.v (.pos rfl rfl) (.lss (.g rfl (fun h => h)) .c) rfl (RL.u (.and (.t rfl) (.g rfl (fun h => h))) rfl (RL.m rfl rfl (RL.v (.neg rfl rfl) (.move (.t rfl)) rfl (RL.v (.neg rfl rfl) (.eql (.g rfl (fun h => h)) .c) rfl ?_)))))
     refine RL.v (.neg rfl rfl) (.move (.g rfl (fun h => h))) rfl (RL.v (.posG rfl rfl) (.move (.t rfl)) rfl (RL.v (.posG rfl rfl) (.move (.t rfl)) rfl (RL.v (.posG rfl rfl) (.add (.g rfl (fun h => h)) .c (fun hW => by simp only [zb] at hW; first | omega | (unfold cont at *; simp only [zb] at *; omega))) rfl (RL.v (.posG rfl rfl) (.idxS (.g rfl (fun h => h)) (.g rfl (fun h => h)) Tryz.underlying9 (fun hW => by simp only [zb] at hW; first | omega | (unfold cont at *; simp only [zb] at *; omega))) rfl (RL.v (.posG rfl rfl) (.geq (.g rfl (fun h => h)) .c) rfl ?_)))))
     refine RL.v (.neg rfl rfl) (.and (.g rfl (fun h => h)) (.g rfl (fun h => h))) rfl (RL.u (.or (.t rfl) (.g rfl (fun h => h))) rfl ?_)
     refine RL.nil (CW.at [Y 108 (.bool ((((byteAt (s) (i)) == (240)) && (decide ((byteAt (s) ((i) + (1))) < (144)))) || (((byteAt (s) (i)) == (244)) && (decide ((144) ≤ (byteAt (s) ((i) + (1))))))))] rfl ?_)
     refine CW.cond rfl (fun hb6 => ?_) (fun hb6 => ?_)
     ·try simp only [zb] at hb6
      refine CW.sr ?_
      refine RL.u (.assign .c) rfl ?_
      refine RL.nil (CW.at [Y 4 (i64 0)] rfl ?_)
      refine CW.ret (ret1 (P := Tryz.prog) (fn := Tryz.f70) (R := fun e w' => e = .returned (i64 (rune s i)) ∧ w' = w) rfl rfl ?_)
      refine ⟨congrArg (fun x => Ending.returned (i64 x)) ?_, rfl⟩
      unfold rune; (try dsimp only); (repeat' split)
      all_goals first | rfl | (exfalso; simp only [zb] at *; omega) | (exfalso; simp_all; done) | (exfalso; simp_all; omega)
     ·try simp only [zb] at hb6
      refine CW.skip (CW.at [] rfl ?_)
      refine CW.sr ?_
      refine RL.u (.assign .c) rfl ?_
      refine RL.nil (CW.at [Y 4 (i64 4)] rfl ?_)
      refine CW.ret (ret1 (P := Tryz.prog) (fn := Tryz.f70) (R := fun e w' => e = .returned (i64 (rune s i)) ∧ w' = w) rfl rfl ?_)
      refine ⟨congrArg (fun x => Ending.returned (i64 x)) ?_, rfl⟩
      unfold rune; (try dsimp only); (repeat' split)
      all_goals first | rfl | (exfalso; simp only [zb] at *; omega) | (exfalso; simp_all; done) | (exfalso; simp_all; omega)
    ·try simp only [zb] at hb5
     refine CW.skip (CW.at [] rfl ?_)
     refine CW.sr ?_
     refine RL.u (.assign .c) rfl ?_
     refine RL.nil (CW.at [Y 4 (i64 0)] rfl ?_)
     refine CW.ret (ret1 (P := Tryz.prog) (fn := Tryz.f70) (R := fun e w' => e = .returned (i64 (rune s i)) ∧ w' = w) rfl rfl ?_)
     refine ⟨congrArg (fun x => Ending.returned (i64 x)) ?_, rfl⟩
     unfold rune; (try dsimp only); (repeat' split)
     all_goals first | rfl | (exfalso; simp only [zb] at *; omega) | (exfalso; simp_all; done) | (exfalso; simp_all; omega)

/- loupe/louperef02.Utf -/
set_option maxRecDepth 100000 in
theorem utf_c (s : Str) (w : World) (hb : len s ≤ 9223372036854775807) :
  Calls Tryz.prog 39 [(str s)].toArray w fun e w' => e = .returned (.bool (utf s)) ∧ w' = w := by
 refine CW.enter Tryz.func39 rfl Tryz.ntmps39 (Nat.le_of_ble_eq_true rfl) ?_
 have := len_nonneg s
 refine CW.weaken [0] (L' := [Y 0 (str s)]) ?_ rfl
 refine CW.sr ?_
 refine RL.u (.assign .c) rfl ?_
 refine RL.nil (CW.at [Y 0 (str s)] rfl ?_)
 refine CW.sr ?_
 refine RL.u (.assign .c) rfl ?_
 refine RL.nil (CW.at [Y 0 (str s), Y 3 (i64 0)] rfl ?_)
 refine CW.seq ?_
 refine CW.block ?_
 refine CW.loop (σ := Int) (fun k => [Y 0 (str s), Y 3 (i64 k)]) (fun k wl => w = wl ∧ 0 ≤ k ∧ utfFrom s k = utf s) (fun k => (len s - k).toNat) (0) [0, 3] rfl ?_ ?_
 ·exact ⟨rfl, by omega, rfl⟩
 ·rintro k wl ⟨rfl, hk0, hkF⟩
  have hr := rune_bd s k
  have hrl := rune_le s k
  refine CW.seq ?_
  refine CW.sr ?_
  refine RL.m rfl rfl (RL.m rfl rfl (RL.u (.lenS (.t rfl) Tryz.underlying9) rfl (RL.u (.lss (.t rfl) (.t rfl)) rfl ?_)))
  refine RL.nil (CW.at [Y 0 (str s), Y 3 (i64 k), Y 8 (.bool (decide ((k) < (len (s)))))] rfl ?_)
  refine CW.cond rfl (fun hb1 => ?_) (fun hb1 => ?_)
  ·try simp only [zb] at hb1
   refine CW.skip (CW.at [Y 0 (str s), Y 3 (i64 k)] rfl ?_)
   refine CW.block ?_
   refine CW.sr ?_
   refine RL.m rfl rfl (RL.m rfl rfl ?_)
   refine RL.callS .none Tryz.call70 (.cons (.t rfl) (.cons (.t rfl) .nil)) (fun _ => (rune_c (s) (k) _ (by omega) (by omega) (by omega))) rfl ?_
   refine RL.a rfl rfl ?_
   refine RL.nil (CW.at [Y 0 (str s), Y 3 (i64 k), Y 4 (i64 (rune (s) (k)))] rfl ?_)
   refine CW.seq ?_
   refine CW.sr ?_
   refine RL.m rfl rfl (RL.u (.eql (.t rfl) .c) rfl ?_)
   refine RL.nil (CW.at [Y 0 (str s), Y 3 (i64 k), Y 4 (i64 (rune (s) (k))), Y 13 (.bool ((rune (s) (k)) == (0)))] rfl ?_)
   refine CW.cond rfl (fun hb2 => ?_) (fun hb2 => ?_)
   ·try simp only [zb] at hb2
    refine CW.sr ?_
    refine RL.u (.assign .c) rfl ?_
    refine RL.nil (CW.at [Y 2 (.bool false)] rfl ?_)
    refine CW.ret (ret1 (P := Tryz.prog) (fn := Tryz.f39) (R := fun e w' => e = .returned (.bool (utf s)) ∧ w' = w) rfl rfl ?_)
    exact ⟨by rw [← hkF, utfFrom_bad s k hk0 hb1 (by omega)], rfl⟩
   ·try simp only [zb] at hb2
    refine CW.skip (CW.at [Y 0 (str s), Y 3 (i64 k), Y 4 (i64 (rune (s) (k)))] rfl ?_)
    refine CW.region ?_
    refine RL.m rfl rfl (RL.m rfl rfl (RL.u (.add (.t rfl) (.t rfl) (fun _ => by omega)) rfl (RL.a rfl rfl ?_)))
    refine RL.nil fun a hs => Exists.intro (k + rune s k) ⟨hs.keep [0, 3], ?_, ?_⟩
    ·exact ⟨rfl, by omega, by rw [← hkF, utfFrom_step s k hk0 hb1 (by omega)]⟩
    ·show Int.toNat _ < Int.toNat _; omega
  ·try simp only [zb] at hb1
   refine CW.exit (CW.at [] rfl ?_)
   refine CW.sr ?_
   refine RL.u (.assign .c) rfl ?_
   refine RL.nil (CW.at [Y 2 (.bool true)] rfl ?_)
   refine CW.ret (ret1 (P := Tryz.prog) (fn := Tryz.f39) (R := fun e w' => e = .returned (.bool (utf s)) ∧ w' = w) rfl rfl ?_)
   exact ⟨by rw [← hkF, utfFrom_end s k (by omega)], rfl⟩

/- loupe/louperef06.Word -/
set_option maxRecDepth 100000 in
theorem word6_c (s : Str) (w : World) (hb : len s ≤ 9223372036854775807) :
  Calls Tryz.prog 38 [(str s)].toArray w fun e w' => e = .returned (.bool (word6 s)) ∧ w' = w := by
 refine CW.enter Tryz.func38 rfl Tryz.ntmps38 (Nat.le_of_ble_eq_true rfl) ?_
 have := len_nonneg s
 refine CW.weaken [0] (L' := [Y 0 (str s)]) ?_ rfl
 refine CW.sr ?_
 refine RL.u (.assign .c) rfl ?_
 refine RL.nil (CW.at [Y 0 (str s)] rfl ?_)
 refine CW.seq ?_
 refine CW.sr ?_
 refine RL.u (.assign .c) rfl ?_
 refine RL.nil (CW.at [Y 0 (str s), Y 3 (i64 0)] rfl ?_)
 refine CW.block ?_
 refine CW.loop (σ := Int) (fun k => [Y 0 (str s), Y 3 (i64 k)]) (fun k wl => w = wl ∧ 0 ≤ k ∧ k ≤ len s ∧ wordFrom s k = word6 s) (fun k => (len s - k).toNat) (0) [0, 3] rfl ?_ ?_
 ·exact ⟨rfl, by omega, by omega, rfl⟩
 ·rintro k wl ⟨rfl, hk0, hk1, hkF⟩
  refine CW.seq ?_
  refine CW.sr ?_
  refine RL.m rfl rfl (RL.m rfl rfl (RL.u (.lenS (.t rfl) Tryz.underlying9) rfl (RL.u (.lss (.t rfl) (.t rfl)) rfl ?_)))
  refine RL.nil (CW.at [Y 0 (str s), Y 3 (i64 k), Y 9 (.bool (decide ((k) < (len (s)))))] rfl ?_)
  refine CW.cond rfl (fun hb1 => ?_) (fun hb1 => ?_)
  ·try simp only [zb] at hb1
   refine CW.skip (CW.at [Y 0 (str s), Y 3 (i64 k)] rfl ?_)
   refine CW.seq ?_
   refine CW.block ?_
   refine CW.sr ?_
   refine RL.m rfl rfl (RL.m rfl rfl (RL.u (.idxS (.t rfl) (.t rfl) Tryz.underlying9 (fun _ => by omega)) rfl (RL.a rfl rfl ?_)))
   refine RL.nil (CW.at [Y 0 (str s), Y 3 (i64 k), Y 4 (.int .u8 (byteAt (s) (k)))] rfl ?_)
   refine CW.sr ?_
   refine RL.m rfl rfl (RL.u (.geq (.t rfl) .c) rfl (RL.m rfl rfl (RL.v (.pos rfl rfl) (.move (.t rfl)) rfl (RL.v (.pos rfl rfl) (.leq (.g rfl (fun h => h)) .c) rfl (RL.u (.and (.t rfl) (.g rfl (fun h => h))) rfl ?_)))))
   refine RL.m rfl rfl (RL.v (.neg rfl rfl) (.move (.t rfl)) rfl (RL.v (.neg rfl rfl) (.geq (.g rfl (fun h => h)) .c) rfl (RL.v (.neg rfl rfl) (.move (.g rfl (fun h => h))) rfl (RL.v (.posG rfl rfl) (.move (.t rfl)) rfl (RL.v (.posG rfl rfl) (.leq (.g rfl (fun h => h)) .c) rfl ?_)))))
   refine RL.v (.neg rfl rfl) (.and (.g rfl (fun h => h)) (.g rfl (fun h => h))) rfl (RL.u (.or (.t rfl) (.g rfl (fun h => h))) rfl (RL.m rfl rfl (RL.v (.neg rfl rfl) (.move (.t rfl)) rfl (RL.v (.neg rfl rfl) (.eql (.g rfl (fun h => h)) .c) rfl (RL.u (.or (.t rfl) (.g rfl (fun h => h))) rfl ?_)))))
   refine RL.a rfl rfl ?_
   refine RL.nil (CW.at [Y 0 (str s), Y 3 (i64 k), Y 4 (.int .u8 (byteAt (s) (k))), Y 5 (.bool ((((decide ((97) ≤ (byteAt (s) (k)))) && (decide ((byteAt (s) (k)) ≤ (122)))) || ((decide ((65) ≤ (byteAt (s) (k)))) && (decide ((byteAt (s) (k)) ≤ (90))))) || ((byteAt (s) (k)) == (95))))] rfl ?_)
   refine CW.sr ?_
   refine RL.m rfl rfl (RL.u (.not (.t rfl)) rfl (RL.m rfl rfl (RL.v (.pos rfl rfl) (.move (.t rfl)) rfl (RL.v (.pos rfl rfl) (.eql (.g rfl (fun h => h)) .c) rfl (RL.v (.pos rfl rfl) (.move (.g rfl (fun h => h))) rfl ?_)))))
   refine RL.v (.negG rfl rfl) (.move (.t rfl)) rfl (RL.v (.negG rfl rfl) (.lss (.g rfl (fun h => h)) .c) rfl (RL.v (.pos rfl rfl) (.or (.g rfl (fun h => h)) (.g rfl (fun h => h))) rfl (RL.v (.pos rfl rfl) (.move (.g rfl (fun h => h))) rfl (RL.v (.negG rfl rfl) (.move (.t rfl)) rfl (RL.v (.negG rfl rfl) (.gtr (.g rfl (fun h => h)) .c) rfl ?_)))))
   refine RL.v (.pos rfl rfl) (.or (.g rfl (fun h => h)) (.g rfl (fun h => h))) rfl (RL.u (.and (.t rfl) (.g rfl (fun h => h))) rfl ?_)
   refine RL.nil (CW.at [Y 0 (str s), Y 3 (i64 k), Y 46 (.bool ((!((((decide ((97) ≤ (byteAt (s) (k)))) && (decide ((byteAt (s) (k)) ≤ (122)))) || ((decide ((65) ≤ (byteAt (s) (k)))) && (decide ((byteAt (s) (k)) ≤ (90))))) || ((byteAt (s) (k)) == (95)))) && ((((k) == (0)) || (decide ((byteAt (s) (k)) < (48)))) || (decide ((57) < (byteAt (s) (k)))))))] rfl ?_)
   refine CW.cond rfl (fun hb2 => ?_) (fun hb2 => ?_)
   ·try simp only [zb] at hb2
    refine CW.sr ?_
    refine RL.u (.assign .c) rfl ?_
    refine RL.nil (CW.at [Y 2 (.bool false)] rfl ?_)
    refine CW.ret (ret1 (P := Tryz.prog) (fn := Tryz.f38) (R := fun e w' => e = .returned (.bool (word6 s)) ∧ w' = w) rfl rfl ?_)
    exact ⟨by rw [← hkF, wordFrom_bad s k hk0 hb1 (by simp only [isLetter, isFig, zb]; omega)], rfl⟩
   ·try simp only [zb] at hb2
    refine CW.skip (CW.at [Y 0 (str s), Y 3 (i64 k)] rfl ?_)
    refine CW.region ?_
    refine RL.m rfl rfl (RL.u (.add (.t rfl) .c (fun _ => by omega)) rfl (RL.a rfl rfl ?_))
    refine RL.nil fun a hs => Exists.intro (k + 1) ⟨hs.keep [0, 3], ?_, ?_⟩
    ·exact ⟨rfl, by omega, by omega, by rw [← hkF, wordFrom_step s k hk0 hb1 (by simp only [isLetter, isFig, zb]; omega)]⟩
    ·show Int.toNat _ < Int.toNat _; omega
  ·try simp only [zb] at hb1
   refine CW.exit (CW.at [Y 0 (str s)] rfl ?_)
   refine CW.sr ?_
   refine RL.m rfl rfl (RL.u (.sneq (.t rfl) .c) rfl (RL.a rfl rfl ?_))
   refine RL.nil (CW.at [Y 2 (.bool (!((s) == ([]))))] rfl ?_)
   refine CW.ret (ret1 (P := Tryz.prog) (fn := Tryz.f38) (R := fun e w' => e = .returned (.bool (word6 s)) ∧ w' = w) rfl rfl ?_)
   exact ⟨by rw [← hkF, wordFrom_end s k (by omega)]; rfl, rfl⟩

/- loupe/louperef01.figures -/
set_option maxRecDepth 100000 in
theorem figs_c (s : Str) (w : World) (hb : len s ≤ 9223372036854775807) :
  Calls Tryz.prog 71 [(str s)].toArray w fun e w' => e = .returned (.bool (figs s)) ∧ w' = w := by
 refine CW.enter Tryz.func71 rfl Tryz.ntmps71 (Nat.le_of_ble_eq_true rfl) ?_
 have := len_nonneg s
 refine CW.weaken [0] (L' := [Y 0 (str s)]) ?_ rfl
 refine CW.sr ?_
 refine RL.u (.assign .c) rfl ?_
 refine RL.nil (CW.at [Y 0 (str s)] rfl ?_)
 refine CW.seq ?_
 refine CW.sr ?_
 refine RL.u (.assign .c) rfl ?_
 refine RL.nil (CW.at [Y 0 (str s), Y 3 (i64 0)] rfl ?_)
 refine CW.block ?_
 refine CW.loop (σ := Int) (fun k => [Y 0 (str s), Y 3 (i64 k)]) (fun k wl => w = wl ∧ 0 ≤ k ∧ k ≤ len s ∧ figsFrom s k = figs s) (fun k => (len s - k).toNat) (0) [0, 3] rfl ?_ ?_
 ·exact ⟨rfl, by omega, by omega, rfl⟩
 ·rintro k wl ⟨rfl, hk0, hk1, hkF⟩
  refine CW.seq ?_
  refine CW.sr ?_
  refine RL.m rfl rfl (RL.m rfl rfl (RL.u (.lenS (.t rfl) Tryz.underlying9) rfl (RL.u (.lss (.t rfl) (.t rfl)) rfl ?_)))
  refine RL.nil (CW.at [Y 0 (str s), Y 3 (i64 k), Y 7 (.bool (decide ((k) < (len (s)))))] rfl ?_)
  refine CW.cond rfl (fun hb1 => ?_) (fun hb1 => ?_)
  ·try simp only [zb] at hb1
   refine CW.skip (CW.at [Y 0 (str s), Y 3 (i64 k)] rfl ?_)
   refine CW.seq ?_
   refine CW.block ?_
   refine CW.sr ?_
   refine RL.m rfl rfl (RL.m rfl rfl (RL.u (.idxS (.t rfl) (.t rfl) Tryz.underlying9 (fun _ => by omega)) rfl (RL.u (.lss (.t rfl) .c) rfl (RL.m rfl rfl (RL.v (.neg rfl rfl) (.move (.t rfl)) rfl ?_)))))
   refine RL.v (.neg rfl rfl) (.move (.t rfl)) rfl (RL.v (.neg rfl rfl) (.idxS (.g rfl (fun h => h)) (.g rfl (fun h => h)) Tryz.underlying9 (fun hW => by simp only [zb] at hW; omega)) rfl (RL.v (.neg rfl rfl) (.gtr (.g rfl (fun h => h)) .c) rfl (RL.u (.or (.t rfl) (.g rfl (fun h => h))) rfl ?_)))
   refine RL.nil (CW.at [Y 0 (str s), Y 3 (i64 k), Y 19 (.bool ((decide ((byteAt (s) (k)) < (48))) || (decide ((57) < (byteAt (s) (k))))))] rfl ?_)
   refine CW.cond rfl (fun hb2 => ?_) (fun hb2 => ?_)
   ·try simp only [zb] at hb2
    refine CW.sr ?_
    refine RL.u (.assign .c) rfl ?_
    refine RL.nil (CW.at [Y 2 (.bool false)] rfl ?_)
    refine CW.ret (ret1 (P := Tryz.prog) (fn := Tryz.f71) (R := fun e w' => e = .returned (.bool (figs s)) ∧ w' = w) rfl rfl ?_)
    exact ⟨by rw [← hkF, figsFrom_bad s k hk0 hb1 (by simp only [isFig, zb]; omega)], rfl⟩
   ·try simp only [zb] at hb2
    refine CW.skip (CW.at [Y 0 (str s), Y 3 (i64 k)] rfl ?_)
    refine CW.region ?_
    refine RL.m rfl rfl (RL.u (.add (.t rfl) .c (fun _ => by omega)) rfl (RL.a rfl rfl ?_))
    refine RL.nil fun a hs => Exists.intro (k + 1) ⟨hs.keep [0, 3], ?_, ?_⟩
    ·exact ⟨rfl, by omega, by omega, by rw [← hkF, figsFrom_step s k hk0 hb1 (by simp only [isFig, zb]; omega)]⟩
    ·show Int.toNat _ < Int.toNat _; omega
  ·try simp only [zb] at hb1
   refine CW.exit (CW.at [] rfl ?_)
   refine CW.sr ?_
   refine RL.u (.assign .c) rfl ?_
   refine RL.nil (CW.at [Y 2 (.bool true)] rfl ?_)
   refine CW.ret (ret1 (P := Tryz.prog) (fn := Tryz.f71) (R := fun e w' => e = .returned (.bool (figs s)) ∧ w' = w) rfl rfl ?_)
   exact ⟨by rw [← hkF, figsFrom_end s k (by omega)], rfl⟩

/- loupe/louperef01.Right -/
set_option maxRecDepth 100000 in
theorem right1_c (n : Nd) (w : World) (hb : len n.s ≤ 9223372036854775807) :
  Calls Tryz.prog 40 [(ndV (n))].toArray w fun e w' => e = .returned (.bool (right1 n)) ∧ Ext w w' := by
 refine CW.enter Tryz.func40 rfl Tryz.ntmps40 (Nat.le_of_ble_eq_true rfl) ?_
 have hn0 := len_nonneg n.s
 have hS : St w (fun _ _ => none) w (fun _ _ => none) [] := St.start ⟨fun _ _ _ h => by cases h⟩
 refine CW.weaken [0] (L' := [Y 0 (ndV (n))]) ?_ rfl
 refine CW.sr ?_
 refine RL.box (v := (ndV (n))) hS (.t rfl) rfl (fun w1 b2 hS3 => ?_)
 replace hS3 : St w (fun _ _ => none) w1 (fun _ _ => none) [.box b2 (ndC (n) []) 31] := hS3
 refine RL.u (.assign .c) rfl ?_
 refine RL.nil (CW.at [Y 1 (.pointer (some ⟨b2, 0, none⟩))] rfl ?_)
 refine CW.seq ?_
 refine CW.sr ?_
 refine RL.u (.fldA (q := ⟨b2, 0, none⟩) (.t rfl) (fun w => by kernel_rfl)) rfl (RL.u (.loadB1 (v := (i64 ((n).kind))) hS3 extEq (i := 0) rfl (.t rfl) Tryz.isAgg3 rfl) rfl (RL.u (.neq (.t rfl) .c) rfl (RL.m rfl rfl (RL.v (.neg rfl rfl) (.fldA (q := ⟨b2, 1, none⟩) (.t rfl) (fun w => by kernel_rfl)) rfl (RL.v (.neg rfl rfl) (.loadB1 (v := (i64 ((n).many))) hS3 extEq (i := 0) rfl (.g rfl (fun h => h)) Tryz.isAgg3 rfl) rfl ?_)))))
 refine RL.v (.neg rfl rfl) (.neq (.g rfl (fun h => h)) .c) rfl (RL.u (.or (.t rfl) (.g rfl (fun h => h))) rfl (RL.m rfl rfl (RL.v (.neg rfl rfl) (.fldA (q := ⟨b2, 2, none⟩) (.t rfl) (fun w => by kernel_rfl)) rfl (RL.v (.neg rfl rfl) (.loadB1 (v := (str ((n).name))) hS3 extEq (i := 0) rfl (.g rfl (fun h => h)) Tryz.isAgg9 rfl) rfl (RL.v (.neg rfl rfl) (.sneq (.g rfl (fun h => h)) .c) rfl ?_)))))
 refine RL.u (.or (.t rfl) (.g rfl (fun h => h))) rfl (RL.m rfl rfl (RL.v (.neg rfl rfl) (.fldA (q := ⟨b2, 3, none⟩) (.t rfl) (fun w => by kernel_rfl)) rfl (RL.v (.neg rfl rfl) (.loadB1 (v := (str ((n).s))) hS3 extEq (i := 0) rfl (.g rfl (fun h => h)) Tryz.isAgg9 rfl) rfl ?_)))
 refine RL.callS (.neg rfl rfl) Tryz.call71 (.cons (.g rfl (fun h => h)) .nil) (fun hW => by simp only [zb] at hW; exact (figs_c ((n).s) _ (by omega))) rfl ?_
 refine RL.v (.neg rfl rfl) (.not (.g rfl (fun h => h))) rfl (RL.u (.or (.t rfl) (.g rfl (fun h => h))) rfl (RL.m rfl rfl (RL.v (.neg rfl rfl) (.fldA (q := ⟨b2, 3, none⟩) (.t rfl) (fun w => by kernel_rfl)) rfl (RL.v (.neg rfl rfl) (.loadB1 (v := (str ((n).s))) hS3 extEq (i := 0) rfl (.g rfl (fun h => h)) Tryz.isAgg9 rfl) rfl (RL.v (.neg rfl rfl) (.lenS (.g rfl (fun h => h)) Tryz.underlying9) rfl ?_)))))
 refine RL.v (.neg rfl rfl) (.gtr (.g rfl (fun h => h)) .c) rfl (RL.u (.or (.t rfl) (.g rfl (fun h => h))) rfl (RL.m rfl rfl (RL.v (.neg rfl rfl) (.fldA (q := ⟨b2, 5, none⟩) (.t rfl) (fun w => by kernel_rfl)) rfl (RL.v (.neg rfl rfl) (.loadB1 (v := (i64 ((n).e))) hS3 extEq (i := 0) rfl (.g rfl (fun h => h)) Tryz.isAgg3 rfl) rfl (RL.v (.neg rfl rfl) (.lss (.g rfl (fun h => h)) .c) rfl ?_)))))
 refine RL.u (.or (.t rfl) (.g rfl (fun h => h))) rfl (RL.m rfl rfl (RL.v (.neg rfl rfl) (.fldA (q := ⟨b2, 5, none⟩) (.t rfl) (fun w => by kernel_rfl)) rfl (RL.v (.neg rfl rfl) (.loadB1 (v := (i64 ((n).e))) hS3 extEq (i := 0) rfl (.g rfl (fun h => h)) Tryz.isAgg3 rfl) rfl (RL.v (.neg rfl rfl) (.gtr (.g rfl (fun h => h)) .c) rfl (RL.u (.or (.t rfl) (.g rfl (fun h => h))) rfl ?_)))))
 refine RL.m rfl rfl (RL.v (.neg rfl rfl) (.fldA (q := ⟨b2, 3, none⟩) (.t rfl) (fun w => by kernel_rfl)) rfl (RL.v (.neg rfl rfl) (.loadB1 (v := (str ((n).s))) hS3 extEq (i := 0) rfl (.g rfl (fun h => h)) Tryz.isAgg9 rfl) rfl (RL.v (.neg rfl rfl) (.lenS (.g rfl (fun h => h)) Tryz.underlying9) rfl (RL.v (.neg rfl rfl) (.fldA (q := ⟨b2, 5, none⟩) (.t rfl) (fun w => by kernel_rfl)) rfl (RL.v (.neg rfl rfl) (.loadB1 (v := (i64 ((n).e))) hS3 extEq (i := 0) rfl (.g rfl (fun h => h)) Tryz.isAgg3 rfl) rfl ?_)))))
 refine RL.v (.neg rfl rfl) (.add (.g rfl (fun h => h)) (.g rfl (fun h => h)) (fun hW => by simp only [zb] at hW; omega)) rfl (RL.v (.neg rfl rfl) (.gtr (.g rfl (fun h => h)) .c) rfl (RL.u (.or (.t rfl) (.g rfl (fun h => h))) rfl ?_))
 refine RL.nil (CW.at [Y 1 (.pointer (some ⟨b2, 0, none⟩)), Y 46 (.bool ((((((((((n).kind) != (3)) || (((n).many) != (0))) || (!(((n).name) == ([])))) || (!(figs ((n).s)))) || (decide ((100) < (len ((n).s))))) || (decide (((n).e) < ((-1000))))) || (decide ((1000) < ((n).e)))) || (decide ((1000) < ((len ((n).s)) + ((n).e))))))] rfl ?_)
 refine CW.cond rfl (fun hb1 => ?_) (fun hb1 => ?_)
 ·try simp only [zb] at hb1
  refine CW.sr ?_
  refine RL.u (.assign .c) rfl ?_
  refine RL.nil (CW.at [Y 2 (.bool false)] rfl ?_)
  refine CW.ret (ret1 (P := Tryz.prog) (fn := Tryz.f40) (R := fun e w' => e = .returned (.bool (right1 n)) ∧ Ext w w') rfl rfl ?_)
  refine ⟨congrArg (fun x => Ending.returned (.bool x)) ?_, hS3.low⟩
  unfold right1; (try dsimp only); (repeat' split)
  all_goals first | rfl | (exfalso; simp only [zb] at *; omega) | (exfalso; simp_all; done) | (exfalso; simp_all; omega)
 ·try simp only [zb] at hb1
  refine CW.skip (CW.at [Y 1 (.pointer (some ⟨b2, 0, none⟩))] rfl ?_)
  refine CW.seq ?_
  refine CW.sr ?_
  refine RL.u (.fldA (q := ⟨b2, 3, none⟩) (.t rfl) (fun w => by kernel_rfl)) rfl (RL.u (.loadB1 (v := (str ((n).s))) hS3 extEq (i := 0) rfl (.t rfl) Tryz.isAgg9 rfl) rfl (RL.u (.seql (.t rfl) .c) rfl ?_))
  refine RL.nil (CW.at [Y 1 (.pointer (some ⟨b2, 0, none⟩)), Y 49 (.bool (((n).s) == ([])))] rfl ?_)
  refine CW.cond rfl (fun hb2 => ?_) (fun hb2 => ?_)
  ·try simp only [zb] at hb2
   refine CW.sr ?_
   refine RL.u (.fldA (q := ⟨b2, 4, none⟩) (.t rfl) (fun w => by kernel_rfl)) rfl (RL.u (.loadB1 (v := (.bool ((n).neg))) hS3 extEq (i := 0) rfl (.t rfl) Tryz.isAgg4 rfl) rfl (RL.u (.not (.t rfl)) rfl (RL.m rfl rfl (RL.v (.pos rfl rfl) (.fldA (q := ⟨b2, 5, none⟩) (.t rfl) (fun w => by kernel_rfl)) rfl (RL.v (.pos rfl rfl) (.loadB1 (v := (i64 ((n).e))) hS3 extEq (i := 0) rfl (.g rfl (fun h => h)) Tryz.isAgg3 rfl) rfl ?_)))))
   refine RL.v (.pos rfl rfl) (.eql (.g rfl (fun h => h)) .c) rfl (RL.u (.and (.t rfl) (.g rfl (fun h => h))) rfl (RL.a rfl rfl ?_))
   refine RL.nil (CW.at [Y 2 (.bool ((!((n).neg)) && (((n).e) == (0))))] rfl ?_)
   refine CW.ret (ret1 (P := Tryz.prog) (fn := Tryz.f40) (R := fun e w' => e = .returned (.bool (right1 n)) ∧ Ext w w') rfl rfl ?_)
   refine ⟨congrArg (fun x => Ending.returned (.bool x)) ?_, hS3.low⟩
   unfold right1; (try dsimp only); (repeat' split)
   all_goals first | rfl | (exfalso; simp only [zb] at *; omega) | (exfalso; simp_all; done) | (exfalso; simp_all; omega)
  ·try simp only [zb] at hb2
   have hpos := len_pos hb2
   refine CW.skip (CW.at [Y 1 (.pointer (some ⟨b2, 0, none⟩))] rfl ?_)
   refine CW.sr ?_
   refine RL.u (.fldA (q := ⟨b2, 3, none⟩) (.t rfl) (fun w => by kernel_rfl)) rfl (RL.u (.loadB1 (v := (str ((n).s))) hS3 extEq (i := 0) rfl (.t rfl) Tryz.isAgg9 rfl) rfl (RL.u (.idxS (.t rfl) .c Tryz.underlying9 (fun _ => by omega)) rfl (RL.u (.neq (.t rfl) .c) rfl (RL.m rfl rfl (RL.v (.pos rfl rfl) (.fldA (q := ⟨b2, 3, none⟩) (.t rfl) (fun w => by kernel_rfl)) rfl ?_)))))
   refine RL.v (.pos rfl rfl) (.loadB1 (v := (str ((n).s))) hS3 extEq (i := 0) rfl (.g rfl (fun h => h)) Tryz.isAgg9 rfl) rfl (RL.v (.pos rfl rfl) (.fldA (q := ⟨b2, 3, none⟩) (.t rfl) (fun w => by kernel_rfl)) rfl (RL.v (.pos rfl rfl) (.loadB1 (v := (str ((n).s))) hS3 extEq (i := 0) rfl (.g rfl (fun h => h)) Tryz.isAgg9 rfl) rfl (RL.v (.pos rfl rfl) (.lenS (.g rfl (fun h => h)) Tryz.underlying9) rfl (RL.v (.pos rfl rfl) (.sub (.g rfl (fun h => h)) .c (fun hW => by simp only [zb] at hW; omega)) rfl (RL.v (.pos rfl rfl) (.idxS (.g rfl (fun h => h)) (.g rfl (fun h => h)) Tryz.underlying9 (fun hW => by simp only [zb] at hW; omega)) rfl ?_)))))
   refine RL.v (.pos rfl rfl) (.neq (.g rfl (fun h => h)) .c) rfl (RL.u (.and (.t rfl) (.g rfl (fun h => h))) rfl (RL.a rfl rfl ?_))
   refine RL.nil (CW.at [Y 2 (.bool (((byteAt ((n).s) (0)) != (48)) && ((byteAt ((n).s) ((len ((n).s)) - (1))) != (48))))] rfl ?_)
   refine CW.ret (ret1 (P := Tryz.prog) (fn := Tryz.f40) (R := fun e w' => e = .returned (.bool (right1 n)) ∧ Ext w w') rfl rfl ?_)
   refine ⟨congrArg (fun x => Ending.returned (.bool x)) ?_, hS3.low⟩
   unfold right1; (try dsimp only); (repeat' split)
   all_goals first | rfl | (exfalso; simp only [zb] at *; omega) | (exfalso; simp_all; done) | (exfalso; simp_all; omega)

/- loupe/louperef08.marks -/
set_option maxRecDepth 100000 in
theorem marks8_c (M : Mem) (w : World) (hM : Sat w M) :
  Calls Tryz.prog 36 [].toArray w fun e w' => ∃ v M', e = .returned v ∧ Sl M' 1 marks8.length v (marks8.flatMap strC) ∧ Grow w M w' M' := by
 refine CW.enter Tryz.func36 rfl Tryz.ntmps36 (Nat.le_of_ble_eq_true rfl) ?_
 have hS : St w M w M [] := St.start hM
 refine CW.weaken [] (L' := []) ?_ rfl
 refine CW.sr ?_
 have hS1 := hS.ownNil 9 1
 replace hS1 : St w M w M [.own 9 1 (.slice none 0 0) (([] : List Str)).length ((([] : List Str)).flatMap strC)] := hS1
 refine RL.u (.assign .c) rfl ?_
 refine RL.nil (CW.at [] rfl ?_)
 refine CW.sr ?_
 refine RL.buildSlice (n := 17) (sz := 1) (e := 9) (vs := [(0, (str ([61, 61]))), (1, (str ([33, 61]))), (2, (str ([60, 61]))), (3, (str ([62, 61]))), (4, (str ([46]))), (5, (str ([124]))), (6, (str ([44]))), (7, (str ([58]))), (8, (str ([40]))), (9, (str ([41]))), (10, (str ([91]))), (11, (str ([93]))), (12, (str ([123]))), (13, (str ([125]))), (14, (str ([60]))), (15, (str ([62]))), (16, (str ([63])))]) (cs := [(str ([61, 61])), (str ([33, 61])), (str ([60, 61])), (str ([62, 61])), (str ([46])), (str ([124])), (str ([44])), (str ([58])), (str ([40])), (str ([41])), (str ([91])), (str ([93])), (str ([123])), (str ([125])), (str ([60])), (str ([62])), (str ([63]))]) hS1 (.cons .c (.cons .c (.cons .c (.cons .c (.cons .c (.cons .c (.cons .c (.cons .c (.cons .c (.cons .c (.cons .c (.cons .c (.cons .c (.cons .c (.cons .c (.cons .c (.cons .c .nil))))))))))))))))) rfl rfl (fun w => by kernel_rfl) rfl (fun v2 w3 M4 hS5 hle6 => ?_)
 replace hS5 : St w M w3 M4 [.own 9 1 (v2) (([[61, 61], [33, 61], [60, 61], [62, 61], [46], [124], [44], [58], [40], [41], [91], [93], [123], [125], [60], [62], [63]] : List Str)).length ((([[61, 61], [33, 61], [60, 61], [62, 61], [46], [124], [44], [58], [40], [41], [91], [93], [123], [125], [60], [62], [63]] : List Str)).flatMap strC), .own 9 1 (.slice none 0 0) (([] : List Str)).length ((([] : List Str)).flatMap strC)] := hS5
 refine RL.a rfl rfl ?_
 refine RL.nil (CW.at [Y 0 (v2)] rfl ?_)
 refine CW.ret (ret1 (P := Tryz.prog) (fn := Tryz.f36) (R := fun e w' => ∃ v M', e = .returned v ∧ Sl M' 1 marks8.length v (marks8.flatMap strC) ∧ Grow w M w' M') rfl rfl ?_)
 exact ⟨_, _, rfl, hS5.sl (i := 0) rfl, hS5.done⟩

theorem fieldsNd : Tryz.prog.underlying 31 = some (.struct (Tryz.prog.fieldsOf 31)) := by kernel_rfl
theorem fieldsLNd : (Tryz.prog.fieldsOf 31).toList = [⟨ "Kind", 3, 0, false, "", "", 0⟩, ⟨ "Many", 3, 1, false, "", "", 8⟩, ⟨ "Name", 9, 2, false, "", "", 16⟩, ⟨ "S", 9, 3, false, "", "", 32⟩, ⟨ "Neg", 4, 4, false, "", "", 48⟩, ⟨ "E", 3, 5, false, "", "", 56⟩] := by kernel_rfl
theorem eqInNd (d : Nat) (a b : Nd) (w : World) : (Op.equalIn (d + 1 + 1) 31 (.agg (Nd.cells a).toArray) (.agg (Nd.cells b).toArray)).run Tryz.prog w = .ok (decide (a = b)) w := by
  rw [run_equalIn_agg w _ _ _ _ fieldsNd Tryz.stoodInHeld31, fieldsLNd]
  rw [eqF_cons (P := Tryz.prog) (w := w) (xs := (Nd.cells a).toArray) (ys := (Nd.cells b).toArray) (f := ⟨ "Kind", 3, 0, false, "", "", 0⟩) (by decide) (show (part 3 (Nd.cells a).toArray 0).run Tryz.prog w = .ok (i64 ((a).kind)) w by kernel_rfl) (show (part 3 (Nd.cells b).toArray 0).run Tryz.prog w = .ok (i64 ((b).kind)) w by kernel_rfl) (eqI Tryz.underlying3 w d ((a).kind) ((b).kind))]
  rw [eqF_cons (P := Tryz.prog) (w := w) (xs := (Nd.cells a).toArray) (ys := (Nd.cells b).toArray) (f := ⟨ "Many", 3, 1, false, "", "", 8⟩) (by decide) (show (part 3 (Nd.cells a).toArray 1).run Tryz.prog w = .ok (i64 ((a).many)) w by kernel_rfl) (show (part 3 (Nd.cells b).toArray 1).run Tryz.prog w = .ok (i64 ((b).many)) w by kernel_rfl) (eqI Tryz.underlying3 w d ((a).many) ((b).many))]
  rw [eqF_cons (P := Tryz.prog) (w := w) (xs := (Nd.cells a).toArray) (ys := (Nd.cells b).toArray) (f := ⟨ "Name", 9, 2, false, "", "", 16⟩) (by decide) (show (part 9 (Nd.cells a).toArray 2).run Tryz.prog w = .ok (str ((a).name)) w by kernel_rfl) (show (part 9 (Nd.cells b).toArray 2).run Tryz.prog w = .ok (str ((b).name)) w by kernel_rfl) (eqS Tryz.underlying9 w d ((a).name) ((b).name))]
  rw [eqF_cons (P := Tryz.prog) (w := w) (xs := (Nd.cells a).toArray) (ys := (Nd.cells b).toArray) (f := ⟨ "S", 9, 3, false, "", "", 32⟩) (by decide) (show (part 9 (Nd.cells a).toArray 3).run Tryz.prog w = .ok (str ((a).s)) w by kernel_rfl) (show (part 9 (Nd.cells b).toArray 3).run Tryz.prog w = .ok (str ((b).s)) w by kernel_rfl) (eqS Tryz.underlying9 w d ((a).s) ((b).s))]
  rw [eqF_cons (P := Tryz.prog) (w := w) (xs := (Nd.cells a).toArray) (ys := (Nd.cells b).toArray) (f := ⟨ "Neg", 4, 4, false, "", "", 48⟩) (by decide) (show (part 4 (Nd.cells a).toArray 4).run Tryz.prog w = .ok (.bool ((a).neg)) w by kernel_rfl) (show (part 4 (Nd.cells b).toArray 4).run Tryz.prog w = .ok (.bool ((b).neg)) w by kernel_rfl) (eqB Tryz.underlying4 w d ((a).neg) ((b).neg))]
  rw [eqF_cons (P := Tryz.prog) (w := w) (xs := (Nd.cells a).toArray) (ys := (Nd.cells b).toArray) (f := ⟨ "E", 3, 5, false, "", "", 56⟩) (by decide) (show (part 3 (Nd.cells a).toArray 5).run Tryz.prog w = .ok (i64 ((a).e)) w by kernel_rfl) (show (part 3 (Nd.cells b).toArray 5).run Tryz.prog w = .ok (i64 ((b).e)) w by kernel_rfl) (eqI Tryz.underlying3 w d ((a).e) ((b).e))]
  have ht : (.ok true w : Result Bool) = .ok (decide True) w := rfl
  rw [eqF_nil, ht]
  simp only [ite_ok]
  have hp : ((a).kind = (b).kind ∧ (a).many = (b).many ∧ (a).name = (b).name ∧ (a).s = (b).s ∧ (a).neg = (b).neg ∧ (a).e = (b).e ∧ True) ↔ a = b := by cases a; cases b; simp
  rw [decide_eq_decide.2 hp]
theorem eqNd (x y : Operand) (a b : Nd) (w : World) : (do eqGuard .eql 31 x y (.agg (Nd.cells a).toArray) (.agg (Nd.cells b).toArray); binOp .eql 31 (.agg (Nd.cells a).toArray) (.agg (Nd.cells b).toArray) : Sem Value).run Tryz.prog w = .ok (.bool (decide (a = b))) w := run_eql_of x y w Tryz.eqGuardType31 (eqInNd 9998 a b w)
theorem neNd (x y : Operand) (a b : Nd) (w : World) : (do eqGuard .neq 31 x y (.agg (Nd.cells a).toArray) (.agg (Nd.cells b).toArray); binOp .neq 31 (.agg (Nd.cells a).toArray) (.agg (Nd.cells b).toArray) : Sem Value).run Tryz.prog w = .ok (.bool (!(decide (a = b)))) w := run_neq_of x y w Tryz.eqGuardType31 (eqInNd 9998 a b w)

theorem fieldsTk : Tryz.prog.underlying 33 = some (.struct (Tryz.prog.fieldsOf 33)) := by kernel_rfl
theorem fieldsLTk : (Tryz.prog.fieldsOf 33).toList = [⟨ "Kind", 3, 0, false, "", "", 0⟩, ⟨ "S", 9, 1, false, "", "", 8⟩, ⟨ "C", 31, 2, false, "", "", 24⟩, ⟨ "At", 3, 8, false, "", "", 88⟩] := by kernel_rfl
theorem eqInTk (d : Nat) (a b : Tk) (w : World) : (Op.equalIn (d + 1 + 1 + 1) 33 (.agg (Tk.cells a).toArray) (.agg (Tk.cells b).toArray)).run Tryz.prog w = .ok (decide (a = b)) w := by
  rw [run_equalIn_agg w _ _ _ _ fieldsTk Tryz.stoodInHeld33, fieldsLTk]
  rw [eqF_cons (P := Tryz.prog) (w := w) (xs := (Tk.cells a).toArray) (ys := (Tk.cells b).toArray) (f := ⟨ "Kind", 3, 0, false, "", "", 0⟩) (by decide) (show (part 3 (Tk.cells a).toArray 0).run Tryz.prog w = .ok (i64 ((a).kind)) w by kernel_rfl) (show (part 3 (Tk.cells b).toArray 0).run Tryz.prog w = .ok (i64 ((b).kind)) w by kernel_rfl) (eqI Tryz.underlying3 w (d + 1) ((a).kind) ((b).kind))]
  rw [eqF_cons (P := Tryz.prog) (w := w) (xs := (Tk.cells a).toArray) (ys := (Tk.cells b).toArray) (f := ⟨ "S", 9, 1, false, "", "", 8⟩) (by decide) (show (part 9 (Tk.cells a).toArray 1).run Tryz.prog w = .ok (str ((a).s)) w by kernel_rfl) (show (part 9 (Tk.cells b).toArray 1).run Tryz.prog w = .ok (str ((b).s)) w by kernel_rfl) (eqS Tryz.underlying9 w (d + 1) ((a).s) ((b).s))]
  rw [eqF_cons (P := Tryz.prog) (w := w) (xs := (Tk.cells a).toArray) (ys := (Tk.cells b).toArray) (f := ⟨ "C", 31, 2, false, "", "", 24⟩) (by decide) (show (part 31 (Tk.cells a).toArray 2).run Tryz.prog w = .ok (.agg (Nd.cells (a.c)).toArray) w by kernel_rfl) (show (part 31 (Tk.cells b).toArray 2).run Tryz.prog w = .ok (.agg (Nd.cells (b.c)).toArray) w by kernel_rfl) (eqInNd d (a.c) (b.c) w)]
  rw [eqF_cons (P := Tryz.prog) (w := w) (xs := (Tk.cells a).toArray) (ys := (Tk.cells b).toArray) (f := ⟨ "At", 3, 8, false, "", "", 88⟩) (by decide) (show (part 3 (Tk.cells a).toArray 8).run Tryz.prog w = .ok (i64 ((a).pos)) w by kernel_rfl) (show (part 3 (Tk.cells b).toArray 8).run Tryz.prog w = .ok (i64 ((b).pos)) w by kernel_rfl) (eqI Tryz.underlying3 w (d + 1) ((a).pos) ((b).pos))]
  have ht : (.ok true w : Result Bool) = .ok (decide True) w := rfl
  rw [eqF_nil, ht]
  simp only [ite_ok]
  have hp : ((a).kind = (b).kind ∧ (a).s = (b).s ∧ a.c = b.c ∧ (a).pos = (b).pos ∧ True) ↔ a = b := by cases a; cases b; simp
  rw [decide_eq_decide.2 hp]
theorem eqTk (x y : Operand) (a b : Tk) (w : World) : (do eqGuard .eql 33 x y (.agg (Tk.cells a).toArray) (.agg (Tk.cells b).toArray); binOp .eql 33 (.agg (Tk.cells a).toArray) (.agg (Tk.cells b).toArray) : Sem Value).run Tryz.prog w = .ok (.bool (decide (a = b))) w := run_eql_of x y w Tryz.eqGuardType33 (eqInTk 9997 a b w)
theorem neTk (x y : Operand) (a b : Tk) (w : World) : (do eqGuard .neq 33 x y (.agg (Tk.cells a).toArray) (.agg (Tk.cells b).toArray); binOp .neq 33 (.agg (Tk.cells a).toArray) (.agg (Tk.cells b).toArray) : Sem Value).run Tryz.prog w = .ok (.bool (!(decide (a = b)))) w := run_neq_of x y w Tryz.eqGuardType33 (eqInTk 9997 a b w)

end Go.Proofs.YthdialbnlnjgpaaGreatDoor
