import Derived.Test.YthdialbnlnjgpaaGreatDoorEngL
import Derived.Laws.BitsLemmas
import Derived.Test.YthdialbnlnjgpaaGreatDoorPure
import Derived.Test.YthdialbnlnjgpaaGreatDoorProg
import Derived.Test.YthdialbnlnjgpaaGreatDoorP1
import Derived.Test.YthdialbnlnjgpaaGreatDoorNum
import Derived.Test.YthdialbnlnjgpaaGreatDoorLib
import Derived.Test.YthdialbnlnjgpaaGreatDoorTrim
set_option linter.unusedVariables false
set_option linter.unusedSimpArgs false
namespace Go.Proofs.YthdialbnlnjgpaaGreatDoor
open Go.Eng

/- loupe/num.isFigure -/
set_option maxRecDepth 100000 in
theorem isFigure_c (r : Int) (w : World)  :
  Calls Tryz.prog 63 [(.int .i32 r)].toArray w fun e w' => e = .returned (.bool (isFig r)) ∧ w' = w := by
 refine CW.enter Tryz.func63 rfl Tryz.ntmps63 (Nat.le_of_ble_eq_true rfl) ?_
 refine CW.weaken [0] (L' := [Y 0 (.int .i32 r)]) ?_ rfl
 refine CW.sr ?_
 refine RL.u (.assign .c) rfl ?_
 refine RL.nil (CW.at [Y 0 (.int .i32 r)] rfl ?_)
 refine CW.sr ?_
 refine RL.m rfl rfl (RL.u (.geq (.t rfl) .c) rfl (RL.m rfl rfl (RL.v (.pos rfl rfl) (.move (.t rfl)) rfl (RL.v (.pos rfl rfl) (.leq (.g rfl (fun h => h)) .c) rfl (RL.u (.and (.t rfl) (.g rfl (fun h => h))) rfl ?_)))))
 refine RL.a rfl rfl ?_
 refine RL.nil (CW.at [Y 2 (.bool ((decide ((48) ≤ (r))) && (decide ((r) ≤ (57)))))] rfl ?_)
 refine CW.ret (ret1 (P := Tryz.prog) (fn := Tryz.f63) (R := fun e w' => e = .returned (.bool (isFig r)) ∧ w' = w) rfl rfl ?_)
 exact ⟨rfl, rfl⟩

theorem cut_low {cut : Str} (h : ∀ b ∈ cut, b.toNat < 128) : ∀ (j : Nat) (b : UInt8), cut[j]? = some b → b.toNat < 128 := fun _ b hb => h b (List.mem_of_getElem? hb)
theorem repeat0_c (n : Int) (w : World) (h0 : 0 ≤ n) (h1 : n ≤ 140737488355328) : Calls Tryz.prog 48 [str [48], i64 n].toArray w fun e w' => e = .returned (str (zeros n)) ∧ Ext w w' := repeat1_c 48 n w h0 h1
/- loupe/num.isFigures -/
set_option maxRecDepth 100000 in
theorem isFigures_c (s : Str) (w : World) (hg : Gl w) (hb : len s ≤ 9223372036854775807) :
  Calls Tryz.prog 92 [(str s)].toArray w fun e w' => e = .returned (.bool (figs s)) ∧ Ext w w' := by
 refine CW.enter Tryz.func92 rfl Tryz.ntmps92 (Nat.le_of_ble_eq_true rfl) ?_
 have hS : St w (fun _ _ => none) w (fun _ _ => none) [] := St.start ⟨fun _ _ _ h => by cases h⟩
 refine CW.weaken [0] (L' := [Y 0 (str s)]) ?_ rfl
 refine CW.sr ?_
 refine RL.u (.assign .c) rfl ?_
 refine RL.nil (CW.at [Y 0 (str s)] rfl ?_)
 refine CW.sr ?_
 refine RL.m rfl rfl ?_
 refine RL.callE hS .none Tryz.call127 (.cons (.t rfl) (.cons .f .nil)) (fun _ => (trimFunc_c 63 figP (s) _ (hg.low hS.low) Tryz.call63 (by omega) (fun x w _ => isFigure_c x w))) rfl (fun w1 hS2 => ?_)
 refine RL.u (.seql (.t rfl) .c) rfl (RL.a rfl rfl ?_)
 refine RL.nil (CW.at [Y 2 (.bool (((Lib.trimF figP ⟨⟨s⟩⟩).data.toList) == ([])))] rfl ?_)
 refine CW.ret (ret1 (P := Tryz.prog) (fn := Tryz.f92) (R := fun e w' => e = .returned (.bool (figs s)) ∧ Ext w w') rfl rfl ?_)
 exact ⟨by rw [trimF_figs], hS2.low⟩

/- loupe/num.isPower -/
set_option maxRecDepth 100000 in
theorem isPower_c (n x : Int) (w : World) (h : 0 ≤ n ∧ n ≤ 1099511627776) :
  Calls Tryz.prog 94 [(i64 n), (i64 x)].toArray w fun e w' => e = .returned (.bool (decide (-1000 ≤ x) && decide (x ≤ 1000) && decide (n + x ≤ 1000))) ∧ w' = w := by
 refine CW.enter Tryz.func94 rfl Tryz.ntmps94 (Nat.le_of_ble_eq_true rfl) ?_
 refine CW.weaken [0, 1] (L' := [Y 0 (i64 n), Y 1 (i64 x)]) ?_ rfl
 refine CW.sr ?_
 refine RL.u (.assign .c) rfl ?_
 refine RL.nil (CW.at [Y 0 (i64 n), Y 1 (i64 x)] rfl ?_)
 refine CW.sr ?_
 refine RL.m rfl rfl (RL.u (.geq (.t rfl) .c) rfl (RL.m rfl rfl (RL.v (.pos rfl rfl) (.move (.t rfl)) rfl (RL.v (.pos rfl rfl) (.leq (.g rfl (fun h => h)) .c) rfl (RL.u (.and (.t rfl) (.g rfl (fun h => h))) rfl ?_)))))
 refine RL.m rfl rfl (RL.v (.pos rfl rfl) (.move (.t rfl)) rfl (RL.v (.pos rfl rfl) (.move (.t rfl)) rfl (RL.v (.pos rfl rfl) (.add (.g rfl (fun h => h)) (.g rfl (fun h => h)) (fun hW => by simp only [zb] at hW; omega)) rfl (RL.v (.pos rfl rfl) (.leq (.g rfl (fun h => h)) .c) rfl (RL.u (.and (.t rfl) (.g rfl (fun h => h))) rfl ?_)))))
 refine RL.a rfl rfl ?_
 refine RL.nil (CW.at [Y 4 (.bool (((decide (((-1000)) ≤ (x))) && (decide ((x) ≤ (1000)))) && (decide (((n) + (x)) ≤ (1000)))))] rfl ?_)
 refine CW.ret (ret1 (P := Tryz.prog) (fn := Tryz.f94) (R := fun e w' => e = .returned (.bool (decide (-1000 ≤ x) && decide (x ≤ 1000) && decide (n + x ≤ 1000))) ∧ w' = w) rfl rfl ?_)
 exact ⟨by first | rfl | simp [Bool.and_assoc], rfl⟩

/- loupe/num.Make -/
set_option maxRecDepth 100000 in
theorem make_c (neg : Bool) (s : Str) (x : Int) (w : World) (hg : Gl w) (hb : len s ≤ 1099511627776) :
  Calls Tryz.prog 67 [(.bool neg), (str s), (i64 x)].toArray w fun e w' => e = .returned (.tuple #[(ndV ((mk1 neg s x).1)), (i64 ((mk1 neg s x).2))]) ∧ Ext w w' := by
 refine CW.enter Tryz.func67 rfl Tryz.ntmps67 (Nat.le_of_ble_eq_true rfl) ?_
 have hl5 := trimZ_pos s
 have hl1 := dropZ_len s
 have hl2 := trimZ_len (dropZ s)
 have hl3 := len_nonneg (dropZ s)
 have hl4 := len_nonneg (trimZ (dropZ s))
 have hS : St w (fun _ _ => none) w (fun _ _ => none) [] := St.start ⟨fun _ _ _ h => by cases h⟩
 refine CW.weaken [0, 1, 2] (L' := [Y 0 (.bool neg), Y 1 (str s), Y 2 (i64 x)]) ?_ rfl
 refine CW.sr ?_
 refine RL.alloc hS Tryz.zeroValue31 rfl (fun w1 b2 hS3 => ?_)
 replace hS3 : St w (fun _ _ => none) w1 (fun _ _ => none) [.box b2 [(i64 0), (i64 0), (str []), (str []), (.bool false), (i64 0)] 31] := hS3
 refine RL.u (.assign .c) rfl ?_
 refine RL.nil (CW.at [Y 0 (.bool neg), Y 1 (str s), Y 2 (i64 x), Y 6 (.pointer (some ⟨b2, 0, none⟩))] rfl ?_)
 refine CW.seq ?_
 refine CW.sr ?_
 refine RL.m rfl rfl ?_
 refine RL.callE hS3 .none Tryz.call92 (.cons (.t rfl) .nil) (fun _ => (isFigures_c (s) _ (hg.low hS3.low) (by omega))) rfl (fun w4 hS5 => ?_)
 refine RL.u (.not (.t rfl)) rfl ?_
 refine RL.nil (CW.at [Y 0 (.bool neg), Y 1 (str s), Y 2 (i64 x), Y 6 (.pointer (some ⟨b2, 0, none⟩)), Y 12 (.bool (!(figs (s))))] rfl ?_)
 refine CW.cond rfl (fun hb1 => ?_) (fun hb1 => ?_)
 ·try simp only [zb] at hb1
  refine CW.sr ?_
  refine RL.u (.build (vs := []) (v := (.agg #[(i64 0), (i64 0), (str []), (str []), (.bool false), (i64 0)])) .nil (fun w => by kernel_rfl)) rfl ?_
  refine RL.st hS5 (i := 0) rfl (.t rfl) (.t rfl) Tryz.sizeOf31 rfl rfl rfl (Hs' := [.box b2 [(i64 0), (i64 0), (str []), (str []), (.bool false), (i64 0)] 31]) rfl rfl (fun w6 hS7 => ?_)
  refine RL.u (.assign .c) rfl ?_
  refine RL.nil (CW.at [Y 6 (.pointer (some ⟨b2, 0, none⟩)), Y 7 (i64 4)] rfl ?_)
  refine CW.ret (retR2 (P := Tryz.prog) (fn := Tryz.f67) (R := fun e w' => e = .returned (.tuple #[(ndV ((mk1 neg s x).1)), (i64 ((mk1 neg s x).2))]) ∧ Ext w w') rfl (.boxN hS7 (i := 0) rfl rfl Tryz.isAgg31 Tryz.sizeOf31) (show RV _ _ _ (.tmp _) _ from rfl) ?_)
  refine ⟨?_, hS7.low⟩
  have hm : mk1 neg s x = (noNd, 4) := by
   unfold mk1
   simp_all
   try ((repeat' split) <;> first | rfl | omega)
  rw [hm]; try rfl
 ·try simp only [zb] at hb1
  refine CW.skip (CW.at [Y 0 (.bool neg), Y 1 (str s), Y 2 (i64 x), Y 6 (.pointer (some ⟨b2, 0, none⟩))] rfl ?_)
  refine CW.sr ?_
  refine RL.m rfl rfl ?_
  refine RL.callE hS5 .none Tryz.call15 (.cons (.t rfl) (.cons .c .nil)) (fun _ => (trimLeft_c (s) ([48]) _ (by decide) (cut_low (by decide)))) rfl (fun w8 hS9 => ?_)
  refine RL.a rfl rfl ?_
  refine RL.nil (CW.at [Y 0 (.bool neg), Y 2 (i64 x), Y 6 (.pointer (some ⟨b2, 0, none⟩)), Y 8 (str (dropZ (s)))] rfl ?_)
  refine CW.seq ?_
  refine CW.sr ?_
  refine RL.m rfl rfl (RL.u (.seql (.t rfl) .c) rfl ?_)
  refine RL.nil (CW.at [Y 0 (.bool neg), Y 2 (i64 x), Y 6 (.pointer (some ⟨b2, 0, none⟩)), Y 8 (str (dropZ (s))), Y 17 (.bool ((dropZ (s)) == ([])))] rfl ?_)
  refine CW.cond rfl (fun hb2 => ?_) (fun hb2 => ?_)
  ·try simp only [zb] at hb2
   refine CW.sr ?_
   refine RL.u (.build (vs := [(0, (i64 3))]) (v := (.agg #[(i64 3), (i64 0), (str []), (str []), (.bool false), (i64 0)])) (.cons .c .nil) (fun w => by kernel_rfl)) rfl ?_
   refine RL.st hS9 (i := 0) rfl (.t rfl) (.t rfl) Tryz.sizeOf31 rfl rfl rfl (Hs' := [.box b2 [(i64 3), (i64 0), (str []), (str []), (.bool false), (i64 0)] 31]) rfl rfl (fun w10 hS11 => ?_)
   refine RL.u (.assign .c) rfl ?_
   refine RL.nil (CW.at [Y 6 (.pointer (some ⟨b2, 0, none⟩)), Y 7 (i64 0)] rfl ?_)
   refine CW.ret (retR2 (P := Tryz.prog) (fn := Tryz.f67) (R := fun e w' => e = .returned (.tuple #[(ndV ((mk1 neg s x).1)), (i64 ((mk1 neg s x).2))]) ∧ Ext w w') rfl (.boxN hS11 (i := 0) rfl rfl Tryz.isAgg31 Tryz.sizeOf31) (show RV _ _ _ (.tmp _) _ from rfl) ?_)
   refine ⟨?_, hS11.low⟩
   have hm : mk1 neg s x = (⟨3, 0, [], [], false, 0⟩, 0) := by
    unfold mk1
    simp_all
    try ((repeat' split) <;> first | rfl | omega)
   rw [hm]; try rfl
  ·try simp only [zb] at hb2
   refine CW.skip (CW.at [Y 0 (.bool neg), Y 2 (i64 x), Y 6 (.pointer (some ⟨b2, 0, none⟩)), Y 8 (str (dropZ (s)))] rfl ?_)
   refine CW.seq ?_
   refine CW.sr ?_
   refine RL.m rfl rfl (RL.u (.lss (.t rfl) .c) rfl (RL.m rfl rfl (RL.v (.neg rfl rfl) (.move (.t rfl)) rfl (RL.v (.neg rfl rfl) (.gtr (.g rfl (fun h => h)) .c) rfl (RL.u (.or (.t rfl) (.g rfl (fun h => h))) rfl ?_)))))
   refine RL.nil (CW.at [Y 0 (.bool neg), Y 2 (i64 x), Y 6 (.pointer (some ⟨b2, 0, none⟩)), Y 8 (str (dropZ (s))), Y 24 (.bool ((decide ((x) < ((-100000000)))) || (decide ((100000000) < (x)))))] rfl ?_)
   refine CW.cond rfl (fun hb3 => ?_) (fun hb3 => ?_)
   ·try simp only [zb] at hb3
    refine CW.sr ?_
    refine RL.u (.build (vs := []) (v := (.agg #[(i64 0), (i64 0), (str []), (str []), (.bool false), (i64 0)])) .nil (fun w => by kernel_rfl)) rfl ?_
    refine RL.st hS9 (i := 0) rfl (.t rfl) (.t rfl) Tryz.sizeOf31 rfl rfl rfl (Hs' := [.box b2 [(i64 0), (i64 0), (str []), (str []), (.bool false), (i64 0)] 31]) rfl rfl (fun w12 hS13 => ?_)
    refine RL.u (.assign .c) rfl ?_
    refine RL.nil (CW.at [Y 6 (.pointer (some ⟨b2, 0, none⟩)), Y 7 (i64 2)] rfl ?_)
    refine CW.ret (retR2 (P := Tryz.prog) (fn := Tryz.f67) (R := fun e w' => e = .returned (.tuple #[(ndV ((mk1 neg s x).1)), (i64 ((mk1 neg s x).2))]) ∧ Ext w w') rfl (.boxN hS13 (i := 0) rfl rfl Tryz.isAgg31 Tryz.sizeOf31) (show RV _ _ _ (.tmp _) _ from rfl) ?_)
    refine ⟨?_, hS13.low⟩
    have hm : mk1 neg s x = (noNd, 2) := by
     unfold mk1
     simp_all
     try ((repeat' split) <;> first | rfl | omega)
    rw [hm]; try rfl
   ·try simp only [zb] at hb3
    refine CW.skip (CW.at [Y 0 (.bool neg), Y 2 (i64 x), Y 6 (.pointer (some ⟨b2, 0, none⟩)), Y 8 (str (dropZ (s)))] rfl ?_)
    refine CW.sr ?_
    refine RL.m rfl rfl ?_
    refine RL.callE hS9 .none Tryz.call93 (.cons (.t rfl) (.cons .c .nil)) (fun _ => (trimRight_c (dropZ (s)) ([48]) _ (by omega) (by decide) (cut_low (by decide)))) rfl (fun w14 hS15 => ?_)
    refine RL.a rfl rfl ?_
    refine RL.nil (CW.at [Y 0 (.bool neg), Y 2 (i64 x), Y 6 (.pointer (some ⟨b2, 0, none⟩)), Y 8 (str (dropZ (s))), Y 9 (str (trimZ (dropZ (s))))] rfl ?_)
    refine CW.sr ?_
    refine RL.m rfl rfl (RL.m rfl rfl (RL.u (.lenS (.t rfl) Tryz.underlying9) rfl (RL.m rfl rfl (RL.u (.lenS (.t rfl) Tryz.underlying9) rfl (RL.u (.sub (.t rfl) (.t rfl) (fun _ => by omega)) rfl ?_)))))
    refine RL.u (.add (.t rfl) (.t rfl) (fun _ => by omega)) rfl (RL.a rfl rfl ?_)
    refine RL.nil (CW.at [Y 0 (.bool neg), Y 2 (i64 ((x) + ((len (dropZ (s))) - (len (trimZ (dropZ (s))))))), Y 6 (.pointer (some ⟨b2, 0, none⟩)), Y 9 (str (trimZ (dropZ (s))))] rfl ?_)
    refine CW.seq ?_
    refine CW.sr ?_
    refine RL.m rfl rfl (RL.u (.lenS (.t rfl) Tryz.underlying9) rfl (RL.u (.gtr (.t rfl) .c) rfl (RL.m rfl rfl (RL.v (.neg rfl rfl) (.move (.t rfl)) rfl (RL.v (.neg rfl rfl) (.lenS (.g rfl (fun h => h)) Tryz.underlying9) rfl ?_)))))
    refine RL.v (.neg rfl rfl) (.move (.t rfl)) rfl ?_
    refine RL.callS (.neg rfl rfl) Tryz.call94 (.cons (.g rfl (fun h => h)) (.cons (.g rfl (fun h => h)) .nil)) (fun hW => by simp only [zb] at hW; exact (isPower_c (len (trimZ (dropZ (s)))) ((x) + ((len (dropZ (s))) - (len (trimZ (dropZ (s)))))) _ (by omega))) rfl ?_
    refine RL.v (.neg rfl rfl) (.not (.g rfl (fun h => h))) rfl (RL.u (.or (.t rfl) (.g rfl (fun h => h))) rfl ?_)
    refine RL.nil (CW.at [Y 0 (.bool neg), Y 2 (i64 ((x) + ((len (dropZ (s))) - (len (trimZ (dropZ (s))))))), Y 6 (.pointer (some ⟨b2, 0, none⟩)), Y 9 (str (trimZ (dropZ (s)))), Y 44 (.bool ((decide ((100) < (len (trimZ (dropZ (s)))))) || (!(decide ((-1000 : Int) ≤ ((x) + ((len (dropZ (s))) - (len (trimZ (dropZ (s))))))) && decide (((x) + ((len (dropZ (s))) - (len (trimZ (dropZ (s)))))) ≤ 1000) && decide ((len (trimZ (dropZ (s)))) + ((x) + ((len (dropZ (s))) - (len (trimZ (dropZ (s)))))) ≤ 1000)))))] rfl ?_)
    refine CW.cond rfl (fun hb4 => ?_) (fun hb4 => ?_)
    ·try simp only [zb] at hb4
     refine CW.sr ?_
     refine RL.u (.build (vs := []) (v := (.agg #[(i64 0), (i64 0), (str []), (str []), (.bool false), (i64 0)])) .nil (fun w => by kernel_rfl)) rfl ?_
     refine RL.st hS15 (i := 0) rfl (.t rfl) (.t rfl) Tryz.sizeOf31 rfl rfl rfl (Hs' := [.box b2 [(i64 0), (i64 0), (str []), (str []), (.bool false), (i64 0)] 31]) rfl rfl (fun w16 hS17 => ?_)
     refine RL.u (.assign .c) rfl ?_
     refine RL.nil (CW.at [Y 6 (.pointer (some ⟨b2, 0, none⟩)), Y 7 (i64 2)] rfl ?_)
     refine CW.ret (retR2 (P := Tryz.prog) (fn := Tryz.f67) (R := fun e w' => e = .returned (.tuple #[(ndV ((mk1 neg s x).1)), (i64 ((mk1 neg s x).2))]) ∧ Ext w w') rfl (.boxN hS17 (i := 0) rfl rfl Tryz.isAgg31 Tryz.sizeOf31) (show RV _ _ _ (.tmp _) _ from rfl) ?_)
     refine ⟨?_, hS17.low⟩
     have hm : mk1 neg s x = (noNd, 2) := by
      unfold mk1
      simp_all
      try ((repeat' split) <;> first | rfl | omega)
     rw [hm]; try rfl
    ·try simp only [zb] at hb4
     refine CW.skip (CW.at [Y 0 (.bool neg), Y 2 (i64 ((x) + ((len (dropZ (s))) - (len (trimZ (dropZ (s))))))), Y 6 (.pointer (some ⟨b2, 0, none⟩)), Y 9 (str (trimZ (dropZ (s))))] rfl ?_)
     refine CW.sr ?_
     refine RL.m rfl rfl (RL.m rfl rfl (RL.m rfl rfl (RL.u (.build (vs := [(0, (i64 3)), (3, (str (trimZ (dropZ (s))))), (4, (.bool neg)), (5, (i64 ((x) + ((len (dropZ (s))) - (len (trimZ (dropZ (s))))))))]) (v := (.agg #[(i64 3), (i64 0), (str []), (str (trimZ (dropZ (s)))), (.bool neg), (i64 ((x) + ((len (dropZ (s))) - (len (trimZ (dropZ (s)))))))])) (.cons .c (.cons (.t rfl) (.cons (.t rfl) (.cons (.t rfl) .nil)))) (fun w => by kernel_rfl)) rfl ?_)))
     refine RL.st hS15 (i := 0) rfl (.t rfl) (.t rfl) Tryz.sizeOf31 rfl rfl rfl (Hs' := [.box b2 [(i64 3), (i64 0), (str []), (str (trimZ (dropZ (s)))), (.bool neg), (i64 ((x) + ((len (dropZ (s))) - (len (trimZ (dropZ (s)))))))] 31]) rfl rfl (fun w18 hS19 => ?_)
     refine RL.u (.assign .c) rfl ?_
     refine RL.nil (CW.at [Y 6 (.pointer (some ⟨b2, 0, none⟩)), Y 7 (i64 0)] rfl ?_)
     refine CW.ret (retR2 (P := Tryz.prog) (fn := Tryz.f67) (R := fun e w' => e = .returned (.tuple #[(ndV ((mk1 neg s x).1)), (i64 ((mk1 neg s x).2))]) ∧ Ext w w') rfl (.boxN hS19 (i := 0) rfl rfl Tryz.isAgg31 Tryz.sizeOf31) (show RV _ _ _ (.tmp _) _ from rfl) ?_)
     refine ⟨?_, hS19.low⟩
     have hm : mk1 neg s x = (⟨3, 0, [], trimZ (dropZ s), neg, x + (len (dropZ s) - len (trimZ (dropZ s)))⟩, 0) := by
      unfold mk1
      simp_all
      try ((repeat' split) <;> first | rfl | omega)
     rw [hm]; try rfl

/- loupe/num.Print -/
set_option maxRecDepth 100000 in
theorem print_c (n : Nd) (w : World) (hg : Gl w) (hb : len n.s ≤ 1099511627776) (he : -1000000 ≤ n.e ∧ n.e ≤ 1000000) :
  Calls Tryz.prog 22 [(ndV (n))].toArray w fun e w' => e = .returned (str (print1 n)) ∧ Ext w w' := by
 refine CW.enter Tryz.func22 rfl Tryz.ntmps22 (Nat.le_of_ble_eq_true rfl) ?_
 have := len_nonneg n.s
 have hz := zeros_len' (1 - n.e - len n.s)
 have hz2 := zeros_len' n.e
 have hz5 := itoa_len n.e
 have hz3 := sub_bd (zeros (1 - n.e - len n.s) ++ n.s) 0 (len (zeros (1 - n.e - len n.s)) + len n.s + n.e)
 have hz4 := from_bd (zeros (1 - n.e - len n.s) ++ n.s) (len (zeros (1 - n.e - len n.s)) + len n.s + n.e)
 have hS : St w (fun _ _ => none) w (fun _ _ => none) [] := St.start ⟨fun _ _ _ h => by cases h⟩
 refine CW.weaken [0] (L' := [Y 0 (ndV (n))]) ?_ rfl
 refine CW.sr ?_
 refine RL.box (v := (ndV (n))) hS (.t rfl) rfl (fun w1 b2 hS3 => ?_)
 replace hS3 : St w (fun _ _ => none) w1 (fun _ _ => none) [.box b2 (ndC (n) []) 31] := hS3
 refine RL.u (.assign .c) rfl ?_
 refine RL.nil (CW.at [Y 1 (.pointer (some ⟨b2, 0, none⟩))] rfl ?_)
 refine CW.sr ?_
 refine RL.u (.assign .c) rfl ?_
 refine RL.nil (CW.at [Y 1 (.pointer (some ⟨b2, 0, none⟩)), Y 3 (str [])] rfl ?_)
 refine CW.seq ?_
 refine CW.sr ?_
 refine RL.u (.fldA (q := ⟨b2, 4, none⟩) (.t rfl) (fun w => by kernel_rfl)) rfl (RL.u (.loadB1 (v := (.bool ((n).neg))) hS3 extEq (i := 0) rfl (.t rfl) Tryz.isAgg4 rfl) rfl ?_)
 refine RL.nil (CW.at [Y 1 (.pointer (some ⟨b2, 0, none⟩)), Y 3 (str []), Y 7 (.bool ((n).neg))] rfl ?_)
 refine CW.cond rfl (fun hb1 => ?_) (fun hb1 => ?_)
 ·try simp only [zb] at hb1
  refine CW.region ?_
  refine RL.u (.assign .c) rfl ?_
  refine RL.nil (CW.at [Y 1 (.pointer (some ⟨b2, 0, none⟩)), Y 3 (str ([45]))] rfl ?_)
  refine CW.sr ?_
  refine RL.u (.fldA (q := ⟨b2, 3, none⟩) (.t rfl) (fun w => by kernel_rfl)) rfl (RL.u (.loadB1 (v := (str ((n).s))) hS3 extEq (i := 0) rfl (.t rfl) Tryz.isAgg9 rfl) rfl (RL.a rfl rfl ?_))
  refine RL.nil (CW.at [Y 1 (.pointer (some ⟨b2, 0, none⟩)), Y 3 (str ([45])), Y 4 (str ((n).s))] rfl ?_)
  refine CW.seq ?_
  refine CW.block ?_
  refine CW.sr ?_
  refine RL.m rfl rfl (RL.u (.seql (.t rfl) .c) rfl (RL.a rfl rfl ?_))
  refine RL.nil (CW.at [Y 1 (.pointer (some ⟨b2, 0, none⟩)), Y 3 (str ([45])), Y 4 (str ((n).s)), Y 10 (.bool (((n).s) == ([])))] rfl ?_)
  refine CW.cond rfl (fun hb2 => ?_) (fun hb2 => ?_)
  ·try simp only [zb] at hb2
   refine CW.sr ?_
   refine RL.u (.assign .c) rfl ?_
   refine RL.nil (CW.at [Y 2 (str ([48]))] rfl ?_)
   refine CW.ret (ret1 (P := Tryz.prog) (fn := Tryz.f22) (R := fun e w' => e = .returned (str (print1 n)) ∧ Ext w w') rfl rfl ?_)
   refine ⟨congrArg (fun x => Ending.returned (str x)) ?_, hS3.low⟩
   (try simp only [zeros_max]); unfold print1; (try dsimp only); (repeat' split)
   all_goals first | rfl | (simp_all; done) | (exfalso; simp_all; done) | (exfalso; simp_all; omega)
  ·try simp only [zb] at hb2
   refine CW.sr ?_
   refine RL.u (.fldA (q := ⟨b2, 5, none⟩) (.t rfl) (fun w => by kernel_rfl)) rfl (RL.u (.loadB1 (v := (i64 ((n).e))) hS3 extEq (i := 0) rfl (.t rfl) Tryz.isAgg3 rfl) rfl (RL.u (.geq (.t rfl) .c) rfl (RL.m rfl rfl (RL.v (.pos rfl rfl) (.move (.t rfl)) rfl (RL.v (.pos rfl rfl) (.lenS (.g rfl (fun h => h)) Tryz.underlying9) rfl ?_)))))
   refine RL.v (.pos rfl rfl) (.fldA (q := ⟨b2, 5, none⟩) (.t rfl) (fun w => by kernel_rfl)) rfl (RL.v (.pos rfl rfl) (.loadB1 (v := (i64 ((n).e))) hS3 extEq (i := 0) rfl (.g rfl (fun h => h)) Tryz.isAgg3 rfl) rfl (RL.v (.pos rfl rfl) (.add (.g rfl (fun h => h)) (.g rfl (fun h => h)) (fun hW => by simp only [zb] at hW; first | omega | (simp only [zeros_max, len_app, len_cons, len_nil] at *; omega))) rfl (RL.v (.pos rfl rfl) (.leq (.g rfl (fun h => h)) .c) rfl (RL.u (.and (.t rfl) (.g rfl (fun h => h))) rfl (RL.a rfl rfl ?_)))))
   refine RL.nil (CW.at [Y 1 (.pointer (some ⟨b2, 0, none⟩)), Y 3 (str ([45])), Y 4 (str ((n).s)), Y 13 (.bool ((decide ((0) ≤ ((n).e))) && (decide (((len ((n).s)) + ((n).e)) ≤ (20)))))] rfl ?_)
   refine CW.cond rfl (fun hb3 => ?_) (fun hb3 => ?_)
   ·try simp only [zb] at hb3
    refine CW.sr ?_
    refine RL.m rfl rfl (RL.m rfl rfl (RL.u (.sadd (.t rfl) (.t rfl) (fun _ => by first | omega | (simp only [zeros_max, len_app, len_cons, len_nil] at *; omega))) rfl (RL.u (.fldA (q := ⟨b2, 5, none⟩) (.t rfl) (fun w => by kernel_rfl)) rfl (RL.u (.loadB1 (v := (i64 ((n).e))) hS3 extEq (i := 0) rfl (.t rfl) Tryz.isAgg3 rfl) rfl ?_))))
    refine RL.callE hS3 .none Tryz.call48 (.cons .c (.cons (.t rfl) .nil)) (fun _ => (repeat0_c ((n).e) _ (by first | omega | (split <;> omega)) (by first | omega | (split <;> omega)))) rfl (fun w4 hS5 => ?_)
    refine RL.u (.sadd (.t rfl) (.t rfl) (fun _ => by first | omega | (simp only [zeros_max, len_app, len_cons, len_nil] at *; omega))) rfl (RL.a rfl rfl ?_)
    refine RL.nil (CW.at [Y 2 (str ((([45]) ++ ((n).s)) ++ (zeros ((n).e))))] rfl ?_)
    refine CW.ret (ret1 (P := Tryz.prog) (fn := Tryz.f22) (R := fun e w' => e = .returned (str (print1 n)) ∧ Ext w w') rfl rfl ?_)
    refine ⟨congrArg (fun x => Ending.returned (str x)) ?_, hS5.low⟩
    (try simp only [zeros_max]); unfold print1; (try dsimp only); (repeat' split)
    all_goals first | rfl | (simp_all; done) | (exfalso; simp_all; done) | (exfalso; simp_all; omega)
   ·try simp only [zb] at hb3
    refine CW.sr ?_
    refine RL.u (.fldA (q := ⟨b2, 5, none⟩) (.t rfl) (fun w => by kernel_rfl)) rfl (RL.u (.loadB1 (v := (i64 ((n).e))) hS3 extEq (i := 0) rfl (.t rfl) Tryz.isAgg3 rfl) rfl (RL.u (.lss (.t rfl) .c) rfl (RL.m rfl rfl (RL.v (.pos rfl rfl) (.fldA (q := ⟨b2, 5, none⟩) (.t rfl) (fun w => by kernel_rfl)) rfl (RL.v (.pos rfl rfl) (.loadB1 (v := (i64 ((n).e))) hS3 extEq (i := 0) rfl (.g rfl (fun h => h)) Tryz.isAgg3 rfl) rfl ?_)))))
    refine RL.v (.pos rfl rfl) (.geq (.g rfl (fun h => h)) .c) rfl (RL.u (.and (.t rfl) (.g rfl (fun h => h))) rfl (RL.a rfl rfl ?_))
    refine RL.nil (CW.at [Y 1 (.pointer (some ⟨b2, 0, none⟩)), Y 3 (str ([45])), Y 4 (str ((n).s)), Y 32 (.bool ((decide (((n).e) < (0))) && (decide (((-20)) ≤ ((n).e)))))] rfl ?_)
    refine CW.cond rfl (fun hb4 => ?_) (fun hb4 => ?_)
    ·try simp only [zb] at hb4
     refine CW.sr ?_
     refine RL.u (.fldA (q := ⟨b2, 5, none⟩) (.t rfl) (fun w => by kernel_rfl)) rfl (RL.u (.loadB1 (v := (i64 ((n).e))) hS3 extEq (i := 0) rfl (.t rfl) Tryz.isAgg3 rfl) rfl (RL.u (.sub .c (.t rfl) (fun _ => by first | omega | (simp only [zeros_max, len_app, len_cons, len_nil] at *; omega))) rfl (RL.m rfl rfl (RL.u (.lenS (.t rfl) Tryz.underlying9) rfl (RL.u (.sub (.t rfl) (.t rfl) (fun _ => by first | omega | (simp only [zeros_max, len_app, len_cons, len_nil] at *; omega))) rfl ?_)))))
     refine RL.u (.max2 (.t rfl) .c) rfl ?_
     refine RL.callE hS3 .none Tryz.call48 (.cons .c (.cons (.t rfl) .nil)) (fun _ => (repeat0_c (if (0) > (((1) - ((n).e)) - (len ((n).s))) then (0) else (((1) - ((n).e)) - (len ((n).s)))) _ (by first | omega | (split <;> omega)) (by first | omega | (split <;> omega)))) rfl (fun w6 hS7 => ?_)
     refine RL.m rfl rfl (RL.u (.sadd (.t rfl) (.t rfl) (fun _ => by first | omega | (simp only [zeros_max, len_app, len_cons, len_nil] at *; omega))) rfl (RL.a rfl rfl ?_))
     refine RL.nil (CW.at [Y 1 (.pointer (some ⟨b2, 0, none⟩)), Y 3 (str ([45])), Y 4 (str ((zeros (if (0) > (((1) - ((n).e)) - (len ((n).s))) then (0) else (((1) - ((n).e)) - (len ((n).s))))) ++ ((n).s)))] rfl ?_)
     refine CW.sr ?_
     refine RL.m rfl rfl (RL.u (.lenS (.t rfl) Tryz.underlying9) rfl (RL.u (.fldA (q := ⟨b2, 5, none⟩) (.t rfl) (fun w => by kernel_rfl)) rfl (RL.u (.loadB1 (v := (i64 ((n).e))) hS7 extEq (i := 0) rfl (.t rfl) Tryz.isAgg3 rfl) rfl (RL.u (.add (.t rfl) (.t rfl) (fun _ => by first | omega | (simp only [zeros_max, len_app, len_cons, len_nil] at *; omega))) rfl (RL.a rfl rfl ?_)))))
     refine RL.nil (CW.at [Y 3 (str ([45])), Y 4 (str ((zeros (if (0) > (((1) - ((n).e)) - (len ((n).s))) then (0) else (((1) - ((n).e)) - (len ((n).s))))) ++ ((n).s))), Y 5 (i64 ((len ((zeros (if (0) > (((1) - ((n).e)) - (len ((n).s))) then (0) else (((1) - ((n).e)) - (len ((n).s))))) ++ ((n).s))) + ((n).e)))] rfl ?_)
     refine CW.seq ?_
     refine CW.regionD hS7 tryz_mixed (by decide +kernel) ?_
     refine RQ.v .none (.move (.t rfl)) rfl ?_
     refine RQ.v .none (.move (.t rfl)) rfl ?_
     refine RQ.v .none (.move (.t rfl)) rfl ?_
     refine RQ.v .none (.slSh (.t rfl) (.t rfl) Tryz.underlying9 (fun _ => by first | omega | (simp only [zeros_max, len_app, len_cons, len_nil] at *; omega))) rfl ?_
     refine RQ.v .none (.sadd (.t rfl) (.t rfl) (fun _ => by first | omega | (simp only [zeros_max, len_app, len_cons, len_nil] at *; omega))) rfl ?_
     refine RQ.v .none (.sadd (.t rfl) .c (fun _ => by first | omega | (simp only [zeros_max, len_app, len_cons, len_nil] at *; omega))) rfl ?_
     refine RQ.v .none (.move (.t rfl)) rfl ?_
     refine RQ.v .none (.move (.t rfl)) rfl ?_
     refine RQ.v .none (.slSl (.t rfl) (.t rfl) Tryz.underlying9 (fun _ => by first | omega | (simp only [zeros_max, len_app, len_cons, len_nil] at *; omega))) rfl ?_
     refine RQ.v .none (.sadd (.t rfl) (.t rfl) (fun _ => by first | omega | (simp only [zeros_max, len_app, len_cons, len_nil] at *; omega))) rfl ?_
     refine RQ.v .none (.assign (.t rfl)) rfl ?_
     refine RQ.nil (fun a hs w8 hS9 => CW.at [Y 2 (str (((([45]) ++ (Eng.sub ((zeros (if (0) > (((1) - ((n).e)) - (len ((n).s))) then (0) else (((1) - ((n).e)) - (len ((n).s))))) ++ ((n).s)) 0 ((len ((zeros (if (0) > (((1) - ((n).e)) - (len ((n).s))) then (0) else (((1) - ((n).e)) - (len ((n).s))))) ++ ((n).s))) + ((n).e)))) ++ ([46])) ++ (Eng.from' ((zeros (if (0) > (((1) - ((n).e)) - (len ((n).s))) then (0) else (((1) - ((n).e)) - (len ((n).s))))) ++ ((n).s)) ((len ((zeros (if (0) > (((1) - ((n).e)) - (len ((n).s))) then (0) else (((1) - ((n).e)) - (len ((n).s))))) ++ ((n).s))) + ((n).e)))))] rfl ?_ a hs)
     refine CW.ret (ret1 (P := Tryz.prog) (fn := Tryz.f22) (R := fun e w' => e = .returned (str (print1 n)) ∧ Ext w w') rfl rfl ?_)
     refine ⟨congrArg (fun x => Ending.returned (str x)) ?_, hS9.low⟩
     (try simp only [zeros_max]); unfold print1; (try dsimp only); (repeat' split)
     all_goals first | rfl | (simp_all; done) | (exfalso; simp_all; done) | (exfalso; simp_all; omega)
    ·try simp only [zb] at hb4
     refine CW.skip (CW.at [Y 1 (.pointer (some ⟨b2, 0, none⟩)), Y 3 (str ([45])), Y 4 (str ((n).s))] rfl ?_)
     refine CW.sr ?_
     refine RL.m rfl rfl (RL.m rfl rfl (RL.u (.sadd (.t rfl) (.t rfl) (fun _ => by first | omega | (simp only [zeros_max, len_app, len_cons, len_nil] at *; omega))) rfl (RL.u (.sadd (.t rfl) .c (fun _ => by first | omega | (simp only [zeros_max, len_app, len_cons, len_nil] at *; omega))) rfl (RL.u (.fldA (q := ⟨b2, 5, none⟩) (.t rfl) (fun w => by kernel_rfl)) rfl (RL.u (.loadB1 (v := (i64 ((n).e))) hS3 extEq (i := 0) rfl (.t rfl) Tryz.isAgg3 rfl) rfl ?_)))))
     refine RL.callE hS3 .none Tryz.call49 (.cons (.t rfl) .nil) (fun _ => (itoa_c ((n).e) _ (hg.low hS3.low) (by omega) (by omega))) rfl (fun w10 hS11 => ?_)
     refine RL.u (.sadd (.t rfl) (.t rfl) (fun _ => by first | omega | (simp only [zeros_max, len_app, len_cons, len_nil] at *; omega))) rfl (RL.a rfl rfl ?_)
     refine RL.nil (CW.at [Y 2 (str (((([45]) ++ ((n).s)) ++ ([101])) ++ (Lib.itoa ((n).e))))] rfl ?_)
     refine CW.ret (ret1 (P := Tryz.prog) (fn := Tryz.f22) (R := fun e w' => e = .returned (str (print1 n)) ∧ Ext w w') rfl rfl ?_)
     refine ⟨congrArg (fun x => Ending.returned (str x)) ?_, hS11.low⟩
     (try simp only [zeros_max]); unfold print1; (try dsimp only); (repeat' split)
     all_goals first | rfl | (simp_all; done) | (exfalso; simp_all; done) | (exfalso; simp_all; omega)
 ·try simp only [zb] at hb1
  refine CW.skip (CW.at [Y 1 (.pointer (some ⟨b2, 0, none⟩)), Y 3 (str [])] rfl ?_)
  refine CW.sr ?_
  refine RL.u (.fldA (q := ⟨b2, 3, none⟩) (.t rfl) (fun w => by kernel_rfl)) rfl (RL.u (.loadB1 (v := (str ((n).s))) hS3 extEq (i := 0) rfl (.t rfl) Tryz.isAgg9 rfl) rfl (RL.a rfl rfl ?_))
  refine RL.nil (CW.at [Y 1 (.pointer (some ⟨b2, 0, none⟩)), Y 3 (str []), Y 4 (str ((n).s))] rfl ?_)
  refine CW.seq ?_
  refine CW.block ?_
  refine CW.sr ?_
  refine RL.m rfl rfl (RL.u (.seql (.t rfl) .c) rfl (RL.a rfl rfl ?_))
  refine RL.nil (CW.at [Y 1 (.pointer (some ⟨b2, 0, none⟩)), Y 3 (str []), Y 4 (str ((n).s)), Y 10 (.bool (((n).s) == ([])))] rfl ?_)
  refine CW.cond rfl (fun hb5 => ?_) (fun hb5 => ?_)
  ·try simp only [zb] at hb5
   refine CW.sr ?_
   refine RL.u (.assign .c) rfl ?_
   refine RL.nil (CW.at [Y 2 (str ([48]))] rfl ?_)
   refine CW.ret (ret1 (P := Tryz.prog) (fn := Tryz.f22) (R := fun e w' => e = .returned (str (print1 n)) ∧ Ext w w') rfl rfl ?_)
   refine ⟨congrArg (fun x => Ending.returned (str x)) ?_, hS3.low⟩
   (try simp only [zeros_max]); unfold print1; (try dsimp only); (repeat' split)
   all_goals first | rfl | (simp_all; done) | (exfalso; simp_all; done) | (exfalso; simp_all; omega)
  ·try simp only [zb] at hb5
   refine CW.sr ?_
   refine RL.u (.fldA (q := ⟨b2, 5, none⟩) (.t rfl) (fun w => by kernel_rfl)) rfl (RL.u (.loadB1 (v := (i64 ((n).e))) hS3 extEq (i := 0) rfl (.t rfl) Tryz.isAgg3 rfl) rfl (RL.u (.geq (.t rfl) .c) rfl (RL.m rfl rfl (RL.v (.pos rfl rfl) (.move (.t rfl)) rfl (RL.v (.pos rfl rfl) (.lenS (.g rfl (fun h => h)) Tryz.underlying9) rfl ?_)))))
   refine RL.v (.pos rfl rfl) (.fldA (q := ⟨b2, 5, none⟩) (.t rfl) (fun w => by kernel_rfl)) rfl (RL.v (.pos rfl rfl) (.loadB1 (v := (i64 ((n).e))) hS3 extEq (i := 0) rfl (.g rfl (fun h => h)) Tryz.isAgg3 rfl) rfl (RL.v (.pos rfl rfl) (.add (.g rfl (fun h => h)) (.g rfl (fun h => h)) (fun hW => by simp only [zb] at hW; first | omega | (simp only [zeros_max, len_app, len_cons, len_nil] at *; omega))) rfl (RL.v (.pos rfl rfl) (.leq (.g rfl (fun h => h)) .c) rfl (RL.u (.and (.t rfl) (.g rfl (fun h => h))) rfl (RL.a rfl rfl ?_)))))
   refine RL.nil (CW.at [Y 1 (.pointer (some ⟨b2, 0, none⟩)), Y 3 (str []), Y 4 (str ((n).s)), Y 13 (.bool ((decide ((0) ≤ ((n).e))) && (decide (((len ((n).s)) + ((n).e)) ≤ (20)))))] rfl ?_)
   refine CW.cond rfl (fun hb6 => ?_) (fun hb6 => ?_)
   ·try simp only [zb] at hb6
    refine CW.sr ?_
    refine RL.m rfl rfl (RL.m rfl rfl (RL.u (.sadd (.t rfl) (.t rfl) (fun _ => by first | omega | (simp only [zeros_max, len_app, len_cons, len_nil] at *; omega))) rfl (RL.u (.fldA (q := ⟨b2, 5, none⟩) (.t rfl) (fun w => by kernel_rfl)) rfl (RL.u (.loadB1 (v := (i64 ((n).e))) hS3 extEq (i := 0) rfl (.t rfl) Tryz.isAgg3 rfl) rfl ?_))))
    refine RL.callE hS3 .none Tryz.call48 (.cons .c (.cons (.t rfl) .nil)) (fun _ => (repeat0_c ((n).e) _ (by first | omega | (split <;> omega)) (by first | omega | (split <;> omega)))) rfl (fun w12 hS13 => ?_)
    refine RL.u (.sadd (.t rfl) (.t rfl) (fun _ => by first | omega | (simp only [zeros_max, len_app, len_cons, len_nil] at *; omega))) rfl (RL.a rfl rfl ?_)
    refine RL.nil (CW.at [Y 2 (str ((([]) ++ ((n).s)) ++ (zeros ((n).e))))] rfl ?_)
    refine CW.ret (ret1 (P := Tryz.prog) (fn := Tryz.f22) (R := fun e w' => e = .returned (str (print1 n)) ∧ Ext w w') rfl rfl ?_)
    refine ⟨congrArg (fun x => Ending.returned (str x)) ?_, hS13.low⟩
    (try simp only [zeros_max]); unfold print1; (try dsimp only); (repeat' split)
    all_goals first | rfl | (simp_all; done) | (exfalso; simp_all; done) | (exfalso; simp_all; omega)
   ·try simp only [zb] at hb6
    refine CW.sr ?_
    refine RL.u (.fldA (q := ⟨b2, 5, none⟩) (.t rfl) (fun w => by kernel_rfl)) rfl (RL.u (.loadB1 (v := (i64 ((n).e))) hS3 extEq (i := 0) rfl (.t rfl) Tryz.isAgg3 rfl) rfl (RL.u (.lss (.t rfl) .c) rfl (RL.m rfl rfl (RL.v (.pos rfl rfl) (.fldA (q := ⟨b2, 5, none⟩) (.t rfl) (fun w => by kernel_rfl)) rfl (RL.v (.pos rfl rfl) (.loadB1 (v := (i64 ((n).e))) hS3 extEq (i := 0) rfl (.g rfl (fun h => h)) Tryz.isAgg3 rfl) rfl ?_)))))
    refine RL.v (.pos rfl rfl) (.geq (.g rfl (fun h => h)) .c) rfl (RL.u (.and (.t rfl) (.g rfl (fun h => h))) rfl (RL.a rfl rfl ?_))
    refine RL.nil (CW.at [Y 1 (.pointer (some ⟨b2, 0, none⟩)), Y 3 (str []), Y 4 (str ((n).s)), Y 32 (.bool ((decide (((n).e) < (0))) && (decide (((-20)) ≤ ((n).e)))))] rfl ?_)
    refine CW.cond rfl (fun hb7 => ?_) (fun hb7 => ?_)
    ·try simp only [zb] at hb7
     refine CW.sr ?_
     refine RL.u (.fldA (q := ⟨b2, 5, none⟩) (.t rfl) (fun w => by kernel_rfl)) rfl (RL.u (.loadB1 (v := (i64 ((n).e))) hS3 extEq (i := 0) rfl (.t rfl) Tryz.isAgg3 rfl) rfl (RL.u (.sub .c (.t rfl) (fun _ => by first | omega | (simp only [zeros_max, len_app, len_cons, len_nil] at *; omega))) rfl (RL.m rfl rfl (RL.u (.lenS (.t rfl) Tryz.underlying9) rfl (RL.u (.sub (.t rfl) (.t rfl) (fun _ => by first | omega | (simp only [zeros_max, len_app, len_cons, len_nil] at *; omega))) rfl ?_)))))
     refine RL.u (.max2 (.t rfl) .c) rfl ?_
     refine RL.callE hS3 .none Tryz.call48 (.cons .c (.cons (.t rfl) .nil)) (fun _ => (repeat0_c (if (0) > (((1) - ((n).e)) - (len ((n).s))) then (0) else (((1) - ((n).e)) - (len ((n).s)))) _ (by first | omega | (split <;> omega)) (by first | omega | (split <;> omega)))) rfl (fun w14 hS15 => ?_)
     refine RL.m rfl rfl (RL.u (.sadd (.t rfl) (.t rfl) (fun _ => by first | omega | (simp only [zeros_max, len_app, len_cons, len_nil] at *; omega))) rfl (RL.a rfl rfl ?_))
     refine RL.nil (CW.at [Y 1 (.pointer (some ⟨b2, 0, none⟩)), Y 3 (str []), Y 4 (str ((zeros (if (0) > (((1) - ((n).e)) - (len ((n).s))) then (0) else (((1) - ((n).e)) - (len ((n).s))))) ++ ((n).s)))] rfl ?_)
     refine CW.sr ?_
     refine RL.m rfl rfl (RL.u (.lenS (.t rfl) Tryz.underlying9) rfl (RL.u (.fldA (q := ⟨b2, 5, none⟩) (.t rfl) (fun w => by kernel_rfl)) rfl (RL.u (.loadB1 (v := (i64 ((n).e))) hS15 extEq (i := 0) rfl (.t rfl) Tryz.isAgg3 rfl) rfl (RL.u (.add (.t rfl) (.t rfl) (fun _ => by first | omega | (simp only [zeros_max, len_app, len_cons, len_nil] at *; omega))) rfl (RL.a rfl rfl ?_)))))
     refine RL.nil (CW.at [Y 3 (str []), Y 4 (str ((zeros (if (0) > (((1) - ((n).e)) - (len ((n).s))) then (0) else (((1) - ((n).e)) - (len ((n).s))))) ++ ((n).s))), Y 5 (i64 ((len ((zeros (if (0) > (((1) - ((n).e)) - (len ((n).s))) then (0) else (((1) - ((n).e)) - (len ((n).s))))) ++ ((n).s))) + ((n).e)))] rfl ?_)
     refine CW.seq ?_
     refine CW.regionD hS15 tryz_mixed (by decide +kernel) ?_
     refine RQ.v .none (.move (.t rfl)) rfl ?_
     refine RQ.v .none (.move (.t rfl)) rfl ?_
     refine RQ.v .none (.move (.t rfl)) rfl ?_
     refine RQ.v .none (.slSh (.t rfl) (.t rfl) Tryz.underlying9 (fun _ => by first | omega | (simp only [zeros_max, len_app, len_cons, len_nil] at *; omega))) rfl ?_
     refine RQ.v .none (.sadd (.t rfl) (.t rfl) (fun _ => by first | omega | (simp only [zeros_max, len_app, len_cons, len_nil] at *; omega))) rfl ?_
     refine RQ.v .none (.sadd (.t rfl) .c (fun _ => by first | omega | (simp only [zeros_max, len_app, len_cons, len_nil] at *; omega))) rfl ?_
     refine RQ.v .none (.move (.t rfl)) rfl ?_
     refine RQ.v .none (.move (.t rfl)) rfl ?_
     refine RQ.v .none (.slSl (.t rfl) (.t rfl) Tryz.underlying9 (fun _ => by first | omega | (simp only [zeros_max, len_app, len_cons, len_nil] at *; omega))) rfl ?_
     refine RQ.v .none (.sadd (.t rfl) (.t rfl) (fun _ => by first | omega | (simp only [zeros_max, len_app, len_cons, len_nil] at *; omega))) rfl ?_
     refine RQ.v .none (.assign (.t rfl)) rfl ?_
     refine RQ.nil (fun a hs w16 hS17 => CW.at [Y 2 (str (((([]) ++ (Eng.sub ((zeros (if (0) > (((1) - ((n).e)) - (len ((n).s))) then (0) else (((1) - ((n).e)) - (len ((n).s))))) ++ ((n).s)) 0 ((len ((zeros (if (0) > (((1) - ((n).e)) - (len ((n).s))) then (0) else (((1) - ((n).e)) - (len ((n).s))))) ++ ((n).s))) + ((n).e)))) ++ ([46])) ++ (Eng.from' ((zeros (if (0) > (((1) - ((n).e)) - (len ((n).s))) then (0) else (((1) - ((n).e)) - (len ((n).s))))) ++ ((n).s)) ((len ((zeros (if (0) > (((1) - ((n).e)) - (len ((n).s))) then (0) else (((1) - ((n).e)) - (len ((n).s))))) ++ ((n).s))) + ((n).e)))))] rfl ?_ a hs)
     refine CW.ret (ret1 (P := Tryz.prog) (fn := Tryz.f22) (R := fun e w' => e = .returned (str (print1 n)) ∧ Ext w w') rfl rfl ?_)
     refine ⟨congrArg (fun x => Ending.returned (str x)) ?_, hS17.low⟩
     (try simp only [zeros_max]); unfold print1; (try dsimp only); (repeat' split)
     all_goals first | rfl | (simp_all; done) | (exfalso; simp_all; done) | (exfalso; simp_all; omega)
    ·try simp only [zb] at hb7
     refine CW.skip (CW.at [Y 1 (.pointer (some ⟨b2, 0, none⟩)), Y 3 (str []), Y 4 (str ((n).s))] rfl ?_)
     refine CW.sr ?_
     refine RL.m rfl rfl (RL.m rfl rfl (RL.u (.sadd (.t rfl) (.t rfl) (fun _ => by first | omega | (simp only [zeros_max, len_app, len_cons, len_nil] at *; omega))) rfl (RL.u (.sadd (.t rfl) .c (fun _ => by first | omega | (simp only [zeros_max, len_app, len_cons, len_nil] at *; omega))) rfl (RL.u (.fldA (q := ⟨b2, 5, none⟩) (.t rfl) (fun w => by kernel_rfl)) rfl (RL.u (.loadB1 (v := (i64 ((n).e))) hS3 extEq (i := 0) rfl (.t rfl) Tryz.isAgg3 rfl) rfl ?_)))))
     refine RL.callE hS3 .none Tryz.call49 (.cons (.t rfl) .nil) (fun _ => (itoa_c ((n).e) _ (hg.low hS3.low) (by omega) (by omega))) rfl (fun w18 hS19 => ?_)
     refine RL.u (.sadd (.t rfl) (.t rfl) (fun _ => by first | omega | (simp only [zeros_max, len_app, len_cons, len_nil] at *; omega))) rfl (RL.a rfl rfl ?_)
     refine RL.nil (CW.at [Y 2 (str (((([]) ++ ((n).s)) ++ ([101])) ++ (Lib.itoa ((n).e))))] rfl ?_)
     refine CW.ret (ret1 (P := Tryz.prog) (fn := Tryz.f22) (R := fun e w' => e = .returned (str (print1 n)) ∧ Ext w w') rfl rfl ?_)
     refine ⟨congrArg (fun x => Ending.returned (str x)) ?_, hS19.low⟩
     (try simp only [zeros_max]); unfold print1; (try dsimp only); (repeat' split)
     all_goals first | rfl | (simp_all; done) | (exfalso; simp_all; done) | (exfalso; simp_all; omega)

/- loupe/num.Read$1 -/
set_option maxRecDepth 100000 in
theorem take_c {w wv : World} {M0 M : Mem} {Rs : List HO} (s : Str) (p : Int) (bp bs : Nat) (hS : St w M0 wv M (.box bp [(i64 p)] 3 :: .box bs [(str s)] 9 :: Rs)) (h0 : 0 ≤ p) (h1 : p ≤ len s) (hb : len s ≤ 9223372036854775807) :
  Calls Tryz.prog 62 [(.pointer (some ⟨bp, 0, none⟩)), (.pointer (some ⟨bs, 0, none⟩))].toArray wv fun e w' => ∃ v, e = .returned v ∧ v = str (Eng.sub s p (runTo s p)) ∧ St w M0 w' M (.box bp [i64 (runTo s p)] 3 :: .box bs [str s] 9 :: Rs) := by
 refine CW.enter Tryz.func62 rfl Tryz.ntmps62 (Nat.le_of_ble_eq_true rfl) ?_
 have hbd := runTo_bd s p h0 h1
 refine CW.weaken [0, 1] (L' := [Y 0 (.pointer (some ⟨bp, 0, none⟩)), Y 1 (.pointer (some ⟨bs, 0, none⟩))]) ?_ rfl
 refine CW.sr ?_
 refine RL.u (.assign .c) rfl ?_
 refine RL.nil (CW.at [Y 0 (.pointer (some ⟨bp, 0, none⟩)), Y 1 (.pointer (some ⟨bs, 0, none⟩))] rfl ?_)
 refine CW.sr ?_
 refine RL.u (.loadB1 (v := (i64 p)) hS extEq (i := 0) rfl (.t rfl) Tryz.isAgg3 rfl) rfl (RL.a rfl rfl ?_)
 refine RL.nil (CW.at [Y 0 (.pointer (some ⟨bp, 0, none⟩)), Y 1 (.pointer (some ⟨bs, 0, none⟩)), Y 3 (i64 p)] rfl ?_)
 refine CW.seq ?_
 refine CW.block ?_
 refine CW.loop (σ := Int) (fun k => [Y 0 (.pointer (some ⟨bp, 0, none⟩)), Y 1 (.pointer (some ⟨bs, 0, none⟩)), Y 3 (i64 p)]) (fun k wl => St w M0 wl M (.box bp [(i64 k)] 3 :: .box bs [(str s)] 9 :: Rs) ∧ p ≤ k ∧ k ≤ len s ∧ runTo s k = runTo s p) (fun k => (len s - k).toNat) (p) [0, 1, 3] rfl ?_ ?_
 ·refine ⟨hS, ?_⟩; exact ⟨by omega, by omega, rfl⟩
 ·rintro k wl ⟨hS1, hk0, hk1, hkF⟩
  have hby := byteAt_bd s k
  refine CW.seq ?_
  refine CW.sr ?_
  refine RL.u (.loadB1 (v := (i64 k)) hS1 extEq (i := 0) rfl (.t rfl) Tryz.isAgg3 rfl) rfl (RL.u (.loadB1 (v := (str s)) hS1 extEq (i := 1) rfl (.t rfl) Tryz.isAgg9 rfl) rfl (RL.u (.lenS (.t rfl) Tryz.underlying9) rfl (RL.u (.lss (.t rfl) (.t rfl)) rfl (RL.m rfl rfl (RL.v (.pos rfl rfl) (.loadB1 (v := (str s)) hS1 extEq (i := 1) rfl (.t rfl) Tryz.isAgg9 rfl) rfl ?_)))))
  refine RL.v (.pos rfl rfl) (.loadB1 (v := (i64 k)) hS1 extEq (i := 0) rfl (.t rfl) Tryz.isAgg3 rfl) rfl (RL.v (.pos rfl rfl) (.idxS (.g rfl (fun h => h)) (.g rfl (fun h => h)) Tryz.underlying9 (fun hW => by simp only [zb] at hW; omega)) rfl (RL.v (.pos rfl rfl) (.cvtK (r := byteAt (s) (k)) (.g rfl (fun h => h)) Tryz.underlying5 Tryz.underlying21 (fun hW => by simp only [zb] at hW; exact Eng.wrap_i32 (by omega))) rfl ?_))
  refine RL.callS (.pos rfl rfl) Tryz.call63 (.cons (.g rfl (fun h => h)) .nil) (fun hW => by simp only [zb] at hW; exact (isFigure_c (byteAt (s) (k)) _)) rfl ?_
  refine RL.u (.and (.t rfl) (.g rfl (fun h => h))) rfl ?_
  refine RL.nil (CW.at [Y 0 (.pointer (some ⟨bp, 0, none⟩)), Y 1 (.pointer (some ⟨bs, 0, none⟩)), Y 3 (i64 p), Y 15 (.bool ((decide ((k) < (len (s)))) && (isFig (byteAt (s) (k)))))] rfl ?_)
  refine CW.cond rfl (fun hb1 => ?_) (fun hb1 => ?_)
  ·try simp only [zb] at hb1
   refine CW.skip (CW.at [Y 0 (.pointer (some ⟨bp, 0, none⟩)), Y 1 (.pointer (some ⟨bs, 0, none⟩)), Y 3 (i64 p)] rfl ?_)
   refine CW.block ?_
   refine CW.region ?_
   refine RL.u (.loadB1 (v := (i64 k)) hS1 extEq (i := 0) rfl (.t rfl) Tryz.isAgg3 rfl) rfl (RL.u (.add (.t rfl) .c (fun _ => by omega)) rfl ?_)
   refine RL.st hS1 (i := 0) rfl (.t rfl) (.t rfl) Tryz.sizeOf3 rfl rfl rfl (Hs' := (.box bp [(i64 ((k) + (1)))] 3 :: .box bs [(str s)] 9 :: Rs)) rfl rfl (fun w2 hS3 => ?_)
   refine RL.nil fun a hs => Exists.intro (k + 1) ⟨hs.keep [0, 1, 3], ?_, ?_⟩
   ·refine ⟨hS3, ?_⟩
    exact ⟨by omega, by omega, by rw [← hkF, runTo_step (by omega) (by omega) hb1.2]⟩
   ·show Int.toNat _ < Int.toNat _; omega
  ·try simp only [zb] at hb1
   refine CW.exit (CW.at [Y 0 (.pointer (some ⟨bp, 0, none⟩)), Y 1 (.pointer (some ⟨bs, 0, none⟩)), Y 3 (i64 p)] rfl ?_)
   refine CW.sr ?_
   refine RL.u (.loadB1 (v := (str s)) hS1 extEq (i := 1) rfl (.t rfl) Tryz.isAgg9 rfl) rfl (RL.m rfl rfl (RL.u (.loadB1 (v := (i64 k)) hS1 extEq (i := 0) rfl (.t rfl) Tryz.isAgg3 rfl) rfl (RL.u (.slS (.t rfl) (.t rfl) (.t rfl) Tryz.underlying9 (fun _ => by omega)) rfl (RL.a rfl rfl ?_))))
   refine RL.nil (CW.at [Y 2 (str (Eng.sub (s) (p) (k)))] rfl ?_)
   refine CW.ret (ret1 (P := Tryz.prog) (fn := Tryz.f62) (R := fun e w' => ∃ v, e = .returned v ∧ v = str (Eng.sub s p (runTo s p)) ∧ St w M0 w' M (.box bp [i64 (runTo s p)] 3 :: .box bs [str s] 9 :: Rs)) rfl rfl ?_)
   have hk : k = runTo s p := by
    rw [← hkF]
    by_cases hl : k < len s
    ·exact (runTo_stop (by omega) hl (by simp_all)).symm
    ·exact (runTo_end (by omega)).symm
   subst hk
   exact ⟨_, rfl, rfl, hS1⟩

theorem take_q {w wv : World} {M0 M : Mem} {Rs : List HO} (s : Str) (p : Int) (bp bs : Nat) (hS : St w M0 wv M (.box bp [i64 p] 3 :: .box bs [str s] 9 :: Rs)) (h0 : 0 ≤ p) (h1 : p ≤ len s) (hb : len s ≤ 9223372036854775807) :
    Calls Tryz.prog 62 [.pointer (some ⟨bp, 0, none⟩), .pointer (some ⟨bs, 0, none⟩)].toArray wv fun e w' => ∃ v, e = .returned v ∧ ∃ q, q = runTo s p ∧ p ≤ q ∧ q ≤ len s ∧ len (Eng.sub s p q) = q - p ∧ v = str (Eng.sub s p q) ∧ St w M0 w' M (.box bp [i64 q] 3 :: .box bs [str s] 9 :: Rs) :=
  (take_c s p bp bs hS h0 h1 hb).mono fun e w' ⟨v, he, hv, hs⟩ => ⟨v, he, runTo s p, rfl, (runTo_bd s p h0 h1).1, (runTo_bd s p h0 h1).2, sub_len h0 (runTo_bd s p h0 h1).1 (runTo_bd s p h0 h1).2, hv, hs⟩
/- loupe/num.Read$2 -/
set_option maxRecDepth 100000 in
theorem is_c {w wv : World} {M0 M : Mem} {Rs : List HO} (s signs : Str) (p : Int) (bp bs : Nat) (hS : St w M0 wv M (.box bp [(i64 p)] 3 :: .box bs [(str s)] 9 :: Rs)) (h0 : 0 ≤ p) (h1 : p ≤ len s) (hb : len s < 9223372036854775807) :
  Calls Tryz.prog 64 [(str signs), (.pointer (some ⟨bp, 0, none⟩)), (.pointer (some ⟨bs, 0, none⟩))].toArray wv fun e w' => ∃ v, e = .returned v ∧ v = .bool (isAt s signs p) ∧ St w M0 w' M (.box bp [i64 (isTo s signs p)] 3 :: .box bs [str s] 9 :: Rs) := by
 refine CW.enter Tryz.func64 rfl Tryz.ntmps64 (Nat.le_of_ble_eq_true rfl) ?_
 have hby := byteAt_bd s p
 refine CW.weaken [0, 1, 2] (L' := [Y 0 (str signs), Y 1 (.pointer (some ⟨bp, 0, none⟩)), Y 2 (.pointer (some ⟨bs, 0, none⟩))]) ?_ rfl
 refine CW.sr ?_
 refine RL.u (.assign .c) rfl ?_
 refine RL.nil (CW.at [Y 0 (str signs), Y 1 (.pointer (some ⟨bp, 0, none⟩)), Y 2 (.pointer (some ⟨bs, 0, none⟩))] rfl ?_)
 refine CW.seq ?_
 refine CW.sr ?_
 refine RL.u (.loadB1 (v := (i64 p)) hS extEq (i := 0) rfl (.t rfl) Tryz.isAgg3 rfl) rfl (RL.u (.loadB1 (v := (str s)) hS extEq (i := 1) rfl (.t rfl) Tryz.isAgg9 rfl) rfl (RL.u (.lenS (.t rfl) Tryz.underlying9) rfl (RL.u (.lss (.t rfl) (.t rfl)) rfl (RL.m rfl rfl (RL.v (.pos rfl rfl) (.move (.t rfl)) rfl ?_)))))
 refine RL.v (.pos rfl rfl) (.loadB1 (v := (str s)) hS extEq (i := 1) rfl (.t rfl) Tryz.isAgg9 rfl) rfl (RL.v (.pos rfl rfl) (.loadB1 (v := (i64 p)) hS extEq (i := 0) rfl (.t rfl) Tryz.isAgg3 rfl) rfl (RL.v (.pos rfl rfl) (.idxS (.g rfl (fun h => h)) (.g rfl (fun h => h)) Tryz.underlying9 (fun hW => by simp only [zb] at hW; omega)) rfl ?_))
 refine RL.callS (.pos rfl rfl) Tryz.call65 (.cons (.g rfl (fun h => h)) (.cons (.g rfl (fun h => h)) .nil)) (fun hW => by simp only [zb] at hW; exact (indexByte_c (signs) (byteAt (s) (p)) _)) rfl ?_
 refine RL.v (.pos rfl rfl) (.geq (.g rfl (fun h => h)) .c) rfl (RL.u (.and (.t rfl) (.g rfl (fun h => h))) rfl ?_)
 refine RL.nil (CW.at [Y 1 (.pointer (some ⟨bp, 0, none⟩)), Y 16 (.bool ((decide ((p) < (len (s)))) && (decide ((0) ≤ (Lib.indexByte (signs) (byteAt (s) (p)).toNat.toUInt8)))))] rfl ?_)
 refine CW.cond rfl (fun hb1 => ?_) (fun hb1 => ?_)
 ·try simp only [zb] at hb1
  refine CW.sr ?_
  refine RL.u (.loadB1 (v := (i64 p)) hS extEq (i := 0) rfl (.t rfl) Tryz.isAgg3 rfl) rfl (RL.u (.add (.t rfl) .c (fun _ => by omega)) rfl ?_)
  refine RL.st hS (i := 0) rfl (.t rfl) (.t rfl) Tryz.sizeOf3 rfl rfl rfl (Hs' := (.box bp [(i64 ((p) + (1)))] 3 :: .box bs [(str s)] 9 :: Rs)) rfl rfl (fun w1 hS2 => ?_)
  refine RL.nil (CW.at [] rfl ?_)
  refine CW.sr ?_
  refine RL.u (.assign .c) rfl ?_
  refine RL.nil (CW.at [Y 4 (.bool true)] rfl ?_)
  refine CW.ret (ret1 (P := Tryz.prog) (fn := Tryz.f64) (R := fun e w' => ∃ v, e = .returned v ∧ v = .bool (isAt s signs p) ∧ St w M0 w' M (.box bp [i64 (isTo s signs p)] 3 :: .box bs [str s] 9 :: Rs)) rfl rfl ?_)
  have hq : isAt s signs p = true := by unfold isAt; simp only [zb]; exact hb1
  exact ⟨_, rfl, by rw [hq], by rw [isTo_yes hq]; exact hS2⟩
 ·try simp only [zb] at hb1
  refine CW.skip (CW.at [] rfl ?_)
  refine CW.sr ?_
  refine RL.u (.assign .c) rfl ?_
  refine RL.nil (CW.at [Y 4 (.bool false)] rfl ?_)
  refine CW.ret (ret1 (P := Tryz.prog) (fn := Tryz.f64) (R := fun e w' => ∃ v, e = .returned v ∧ v = .bool (isAt s signs p) ∧ St w M0 w' M (.box bp [i64 (isTo s signs p)] 3 :: .box bs [str s] 9 :: Rs)) rfl rfl ?_)
  have hq : isAt s signs p = false := by unfold isAt; simp only [zb]; exact hb1
  exact ⟨_, rfl, by rw [hq], by rw [isTo_no hq]; exact hS⟩

theorem is_q {w wv : World} {M0 M : Mem} {Rs : List HO} (s signs : Str) (p : Int) (bp bs : Nat) (hS : St w M0 wv M (.box bp [i64 p] 3 :: .box bs [str s] 9 :: Rs)) (h0 : 0 ≤ p) (h1 : p ≤ len s) (hb : len s < 9223372036854775807) :
    Calls Tryz.prog 64 [str signs, .pointer (some ⟨bp, 0, none⟩), .pointer (some ⟨bs, 0, none⟩)].toArray wv fun e w' => ∃ v, e = .returned v ∧ ∃ q c, q = isTo s signs p ∧ c = isAt s signs p ∧ p ≤ q ∧ q ≤ len s ∧ (c = true → q = p + 1) ∧ (c = false → q = p) ∧ v = .bool c ∧ St w M0 w' M (.box bp [i64 q] 3 :: .box bs [str s] 9 :: Rs) :=
  (is_c s signs p bp bs hS h0 h1 hb).mono fun e w' ⟨v, he, hv, hs⟩ => ⟨v, he, isTo s signs p, isAt s signs p, rfl, rfl, (isTo_bd s signs p h1).1, (isTo_bd s signs p h1).2, isTo_yes, isTo_no, hv, hs⟩
/- loupe/num.Read -/
set_option maxRecDepth 100000 in
set_option maxHeartbeats 4000000 in
theorem read_c (s : Str) (w : World) (hg : Gl w) (hb : len s ≤ 1099511627776) :
  Calls Tryz.prog 32 [(str s)].toArray w fun e w' => e = .returned (.tuple #[(ndV ((read1 s).1)), (i64 ((read1 s).2.1)), (i64 ((read1 s).2.2))]) ∧ Ext w w' := by
 refine CW.enter Tryz.func32 rfl Tryz.ntmps32 (Nat.le_of_ble_eq_true rfl) ?_
 have := len_nonneg s
 have hS : St w (fun _ _ => none) w (fun _ _ => none) [] := St.start ⟨fun _ _ _ h => by cases h⟩
 refine CW.weaken [0] (L' := [Y 0 (str s)]) ?_ rfl
 refine CW.sr ?_
 refine RL.box (v := (str s)) hS (.t rfl) rfl (fun w1 b2 hS3 => ?_)
 replace hS3 : St w (fun _ _ => none) w1 (fun _ _ => none) [.box b2 [(str s)] 9] := hS3
 refine RL.alloc hS3 Tryz.zeroValue31 rfl (fun w4 b5 hS6 => ?_)
 replace hS6 : St w (fun _ _ => none) w4 (fun _ _ => none) [.box b5 [(i64 0), (i64 0), (str []), (str []), (.bool false), (i64 0)] 31, .box b2 [(str s)] 9] := hS6
 refine RL.u (.assign .c) rfl (RL.u (.assign .c) rfl ?_)
 refine RL.nil (CW.at [Y 1 (.pointer (some ⟨b2, 0, none⟩)), Y 2 (.pointer (some ⟨b5, 0, none⟩))] rfl ?_)
 refine CW.sr ?_
 refine RL.alloc hS6 Tryz.zeroValue3 rfl (fun w7 b8 hS9 => ?_)
 replace hS9 : St w (fun _ _ => none) w7 (fun _ _ => none) [.box b8 [(i64 0)] 3, .box b5 [(i64 0), (i64 0), (str []), (str []), (.bool false), (i64 0)] 31, .box b2 [(str s)] 9] := hS9
 refine RL.st (v := (i64 0)) hS9 (i := 0) rfl (.t rfl) .c Tryz.sizeOf3 rfl rfl rfl (Hs' := [.box b8 [(i64 0)] 3, .box b5 [(i64 0), (i64 0), (str []), (str []), (.bool false), (i64 0)] 31, .box b2 [(str s)] 9]) rfl rfl (fun w10 hS11 => ?_)
 refine RL.nil (CW.at [Y 1 (.pointer (some ⟨b2, 0, none⟩)), Y 2 (.pointer (some ⟨b5, 0, none⟩)), Y 5 (.pointer (some ⟨b8, 0, none⟩))] rfl ?_)
 refine CW.sr ?_
 refine RL.u (.makeFunc .nil (.cons (.t rfl) (.cons (.t rfl) .nil))) rfl (RL.a rfl rfl ?_)
 refine RL.nil (CW.at [Y 1 (.pointer (some ⟨b2, 0, none⟩)), Y 2 (.pointer (some ⟨b5, 0, none⟩)), Y 5 (.pointer (some ⟨b8, 0, none⟩)), Y 6 (.func (.func 62) #[] #[(.pointer (some ⟨b8, 0, none⟩)), (.pointer (some ⟨b2, 0, none⟩))])] rfl ?_)
 refine CW.sr ?_
 refine RL.u (.makeFunc .nil (.cons (.t rfl) (.cons (.t rfl) .nil))) rfl (RL.a rfl rfl ?_)
 refine RL.nil (CW.at [Y 1 (.pointer (some ⟨b2, 0, none⟩)), Y 2 (.pointer (some ⟨b5, 0, none⟩)), Y 5 (.pointer (some ⟨b8, 0, none⟩)), Y 6 (.func (.func 62) #[] #[(.pointer (some ⟨b8, 0, none⟩)), (.pointer (some ⟨b2, 0, none⟩))]), Y 7 (.func (.func 64) #[] #[(.pointer (some ⟨b8, 0, none⟩)), (.pointer (some ⟨b2, 0, none⟩))])] rfl ?_)
 refine CW.sr ?_
 refine RL.m rfl rfl ?_
 replace hS11 : St w (fun _ _ => none) w10 (fun _ _ => none) [.box b2 [(str s)] 9, .box b8 [(i64 0)] 3, .box b5 [(i64 0), (i64 0), (str []), (str []), (.bool false), (i64 0)] 31] := hS11.front 2 rfl rfl
 replace hS11 : St w (fun _ _ => none) w10 (fun _ _ => none) [.box b8 [(i64 0)] 3, .box b2 [(str s)] 9, .box b5 [(i64 0), (i64 0), (str []), (str []), (.bool false), (i64 0)] 31] := hS11.front 1 rfl rfl
 refine RL.callC (fs := []) (cs := [(.pointer (some ⟨b8, 0, none⟩)), (.pointer (some ⟨b2, 0, none⟩))]) Tryz.call64 (.t rfl) (.cons .c .nil) (is_q (Rs := [.box b5 [(i64 0), (i64 0), (str []), (str []), (.bool false), (i64 0)] 31]) (s) ([45]) (0) b8 b2 hS11 (by omega) (by omega) (by omega)) rfl ?_
 rintro v14 w15 ⟨q12, c13, hq12, hc13, hq12a, hq12b, hc13y, hc13n, rfl, hS17⟩
 replace hS17 : St w (fun _ _ => none) w15 (fun _ _ => none) [.box b8 [(i64 q12)] 3, .box b2 [(str s)] 9, .box b5 [(i64 0), (i64 0), (str []), (str []), (.bool false), (i64 0)] 31] := hS17
 refine RL.a rfl rfl ?_
 refine RL.nil (CW.at [Y 1 (.pointer (some ⟨b2, 0, none⟩)), Y 2 (.pointer (some ⟨b5, 0, none⟩)), Y 5 (.pointer (some ⟨b8, 0, none⟩)), Y 6 (.func (.func 62) #[] #[(.pointer (some ⟨b8, 0, none⟩)), (.pointer (some ⟨b2, 0, none⟩))]), Y 7 (.func (.func 64) #[] #[(.pointer (some ⟨b8, 0, none⟩)), (.pointer (some ⟨b2, 0, none⟩))]), Y 8 (.bool c13)] rfl ?_)
 refine CW.sr ?_
 refine RL.u (.loadB1 (v := (i64 q12)) hS17 extEq (i := 0) rfl (.t rfl) Tryz.isAgg3 rfl) rfl (RL.a rfl rfl ?_)
 refine RL.nil (CW.at [Y 1 (.pointer (some ⟨b2, 0, none⟩)), Y 2 (.pointer (some ⟨b5, 0, none⟩)), Y 5 (.pointer (some ⟨b8, 0, none⟩)), Y 6 (.func (.func 62) #[] #[(.pointer (some ⟨b8, 0, none⟩)), (.pointer (some ⟨b2, 0, none⟩))]), Y 7 (.func (.func 64) #[] #[(.pointer (some ⟨b8, 0, none⟩)), (.pointer (some ⟨b2, 0, none⟩))]), Y 8 (.bool c13), Y 9 (i64 q12)] rfl ?_)
 refine CW.sr ?_
 refine RL.m rfl rfl ?_
 replace hS17 : St w (fun _ _ => none) w15 (fun _ _ => none) [.box b2 [(str s)] 9, .box b8 [(i64 q12)] 3, .box b5 [(i64 0), (i64 0), (str []), (str []), (.bool false), (i64 0)] 31] := hS17.front 1 rfl rfl
 replace hS17 : St w (fun _ _ => none) w15 (fun _ _ => none) [.box b8 [(i64 q12)] 3, .box b2 [(str s)] 9, .box b5 [(i64 0), (i64 0), (str []), (str []), (.bool false), (i64 0)] 31] := hS17.front 1 rfl rfl
 refine RL.callC (fs := []) (cs := [(.pointer (some ⟨b8, 0, none⟩)), (.pointer (some ⟨b2, 0, none⟩))]) Tryz.call62 (.t rfl) .nil (take_q (Rs := [.box b5 [(i64 0), (i64 0), (str []), (str []), (.bool false), (i64 0)] 31]) (s) (q12) b8 b2 hS17 (by omega) (by omega) (by omega)) rfl ?_
 rintro v20 w21 ⟨q19, hq19, hq19a, hq19b, hq19c, rfl, hS23⟩
 replace hS23 : St w (fun _ _ => none) w21 (fun _ _ => none) [.box b8 [(i64 q19)] 3, .box b2 [(str s)] 9, .box b5 [(i64 0), (i64 0), (str []), (str []), (.bool false), (i64 0)] 31] := hS23
 refine RL.a rfl rfl ?_
 refine RL.nil (CW.at [Y 1 (.pointer (some ⟨b2, 0, none⟩)), Y 2 (.pointer (some ⟨b5, 0, none⟩)), Y 5 (.pointer (some ⟨b8, 0, none⟩)), Y 6 (.func (.func 62) #[] #[(.pointer (some ⟨b8, 0, none⟩)), (.pointer (some ⟨b2, 0, none⟩))]), Y 7 (.func (.func 64) #[] #[(.pointer (some ⟨b8, 0, none⟩)), (.pointer (some ⟨b2, 0, none⟩))]), Y 8 (.bool c13), Y 9 (i64 q12), Y 10 (str (Eng.sub (s) (q12) (q19)))] rfl ?_)
 refine CW.seq ?_
 refine CW.sr ?_
 refine RL.m rfl rfl (RL.u (.lenS (.t rfl) Tryz.underlying9) rfl (RL.u (.gtr (.t rfl) .c) rfl (RL.m rfl rfl (RL.v (.pos rfl rfl) (.move (.t rfl)) rfl (RL.v (.pos rfl rfl) (.idxS (.g rfl (fun h => h)) .c Tryz.underlying9 (fun hW => by simp only [zb] at hW; first | omega | (simp only [len_app, len_cons, len_nil] at *; omega))) rfl ?_)))))
 refine RL.v (.pos rfl rfl) (.eql (.g rfl (fun h => h)) .c) rfl (RL.u (.and (.t rfl) (.g rfl (fun h => h))) rfl ?_)
 refine RL.nil (CW.at [Y 1 (.pointer (some ⟨b2, 0, none⟩)), Y 2 (.pointer (some ⟨b5, 0, none⟩)), Y 5 (.pointer (some ⟨b8, 0, none⟩)), Y 6 (.func (.func 62) #[] #[(.pointer (some ⟨b8, 0, none⟩)), (.pointer (some ⟨b2, 0, none⟩))]), Y 7 (.func (.func 64) #[] #[(.pointer (some ⟨b8, 0, none⟩)), (.pointer (some ⟨b2, 0, none⟩))]), Y 8 (.bool c13), Y 9 (i64 q12), Y 10 (str (Eng.sub (s) (q12) (q19))), Y 34 (.bool ((decide ((1) < (len (Eng.sub (s) (q12) (q19))))) && ((byteAt (Eng.sub (s) (q12) (q19)) (0)) == (48))))] rfl ?_)
 refine CW.cond rfl (fun hb1 => ?_) (fun hb1 => ?_)
 ·try simp only [zb, and_true, true_and, false_or, or_false, not_true_eq_false, not_false_eq_true] at hb1
  refine CW.sr ?_
  refine RL.u (.build (vs := []) (v := (.agg #[(i64 0), (i64 0), (str []), (str []), (.bool false), (i64 0)])) .nil (fun w => by kernel_rfl)) rfl (RL.m rfl rfl (RL.u (.add (.t rfl) .c (fun _ => by first | omega | (simp only [len_app, len_cons, len_nil] at *; omega))) rfl ?_))
  refine RL.st hS23 (i := 2) rfl (.t rfl) (.t rfl) Tryz.sizeOf31 rfl rfl rfl (Hs' := [.box b8 [(i64 q19)] 3, .box b2 [(str s)] 9, .box b5 [(i64 0), (i64 0), (str []), (str []), (.bool false), (i64 0)] 31]) rfl rfl (fun w25 hS26 => ?_)
  refine RL.a rfl rfl (RL.u (.assign .c) rfl ?_)
  refine RL.nil (CW.at [Y 2 (.pointer (some ⟨b5, 0, none⟩)), Y 3 (i64 ((q12) + (1))), Y 4 (i64 1)] rfl ?_)
  refine CW.ret (retR3 (P := Tryz.prog) (fn := Tryz.f32) (R := fun e w' => e = .returned (.tuple #[(ndV ((read1 s).1)), (i64 ((read1 s).2.1)), (i64 ((read1 s).2.2))]) ∧ Ext w w') rfl (.boxN hS26 (i := 2) rfl rfl Tryz.isAgg31 Tryz.sizeOf31) (show RV _ _ _ (.tmp _) _ from rfl) (show RV _ _ _ (.tmp _) _ from rfl) ?_)
  refine ⟨?_, hS26.low⟩
  have hr : read1 s = (⟨0, 0, [], [], false, 0⟩, (q12) + (1), 1) := by
   unfold read1 rest1 exp1 fin1
   simp only [← hq12, ← hc13, ← hq19, hb1, if_true, if_false, reduceIte, or_self, or_true, true_or, and_self, and_true, true_and, false_and, and_false, or_false, false_or, Bool.false_eq_true, not_true_eq_false, not_false_eq_true, beq_self_eq_true]
   all_goals first | rfl | (exfalso; simp [] at hb1; done)
  rw [hr]
 ·try simp only [zb, and_true, true_and, false_or, or_false, not_true_eq_false, not_false_eq_true] at hb1
  have hb1n := not_and_of_not_or_not hb1
  refine CW.skip (CW.at [Y 1 (.pointer (some ⟨b2, 0, none⟩)), Y 2 (.pointer (some ⟨b5, 0, none⟩)), Y 5 (.pointer (some ⟨b8, 0, none⟩)), Y 6 (.func (.func 62) #[] #[(.pointer (some ⟨b8, 0, none⟩)), (.pointer (some ⟨b2, 0, none⟩))]), Y 7 (.func (.func 64) #[] #[(.pointer (some ⟨b8, 0, none⟩)), (.pointer (some ⟨b2, 0, none⟩))]), Y 8 (.bool c13), Y 10 (str (Eng.sub (s) (q12) (q19)))] rfl ?_)
  refine CW.sr ?_
  refine RL.m rfl rfl (RL.u (.seql (.t rfl) .c) rfl (RL.a rfl rfl ?_))
  refine RL.nil (CW.at [Y 1 (.pointer (some ⟨b2, 0, none⟩)), Y 2 (.pointer (some ⟨b5, 0, none⟩)), Y 5 (.pointer (some ⟨b8, 0, none⟩)), Y 6 (.func (.func 62) #[] #[(.pointer (some ⟨b8, 0, none⟩)), (.pointer (some ⟨b2, 0, none⟩))]), Y 7 (.func (.func 64) #[] #[(.pointer (some ⟨b8, 0, none⟩)), (.pointer (some ⟨b2, 0, none⟩))]), Y 8 (.bool c13), Y 10 (str (Eng.sub (s) (q12) (q19))), Y 11 (.bool ((Eng.sub (s) (q12) (q19)) == ([])))] rfl ?_)
  refine CW.sr ?_
  refine RL.u (.assign .c) rfl ?_
  refine RL.nil (CW.at [Y 1 (.pointer (some ⟨b2, 0, none⟩)), Y 2 (.pointer (some ⟨b5, 0, none⟩)), Y 5 (.pointer (some ⟨b8, 0, none⟩)), Y 6 (.func (.func 62) #[] #[(.pointer (some ⟨b8, 0, none⟩)), (.pointer (some ⟨b2, 0, none⟩))]), Y 7 (.func (.func 64) #[] #[(.pointer (some ⟨b8, 0, none⟩)), (.pointer (some ⟨b2, 0, none⟩))]), Y 8 (.bool c13), Y 10 (str (Eng.sub (s) (q12) (q19))), Y 11 (.bool ((Eng.sub (s) (q12) (q19)) == ([]))), Y 12 (i64 0)] rfl ?_)
  refine CW.seq ?_
  refine CW.sr ?_
  refine RL.m rfl rfl (RL.u (.not (.t rfl)) rfl (RL.m rfl rfl (RL.v (.pos rfl rfl) (.move (.t rfl)) rfl ?_)))
  refine RL.split (.pos rfl rfl) rfl (fun hg27 => ?_) (fun hg27 => ?_)
  ·have hg27' := hg27
   try simp only [zb] at hg27'
   replace hS23 : St w (fun _ _ => none) w21 (fun _ _ => none) [.box b2 [(str s)] 9, .box b8 [(i64 q19)] 3, .box b5 [(i64 0), (i64 0), (str []), (str []), (.bool false), (i64 0)] 31] := hS23.front 1 rfl rfl
   replace hS23 : St w (fun _ _ => none) w21 (fun _ _ => none) [.box b8 [(i64 q19)] 3, .box b2 [(str s)] 9, .box b5 [(i64 0), (i64 0), (str []), (str []), (.bool false), (i64 0)] 31] := hS23.front 1 rfl rfl
   refine RL.callC (fs := []) (cs := [(.pointer (some ⟨b8, 0, none⟩)), (.pointer (some ⟨b2, 0, none⟩))]) Tryz.call64 (.g rfl (fun _ => hg27)) (.cons .c .nil) (is_q (Rs := [.box b5 [(i64 0), (i64 0), (str []), (str []), (.bool false), (i64 0)] 31]) (s) ([46]) (q19) b8 b2 hS23 (by omega) (by omega) (by omega)) rfl ?_
   rintro v30 w31 ⟨q28, c29, hq28, hc29, hq28a, hq28b, hc29y, hc29n, rfl, hS33⟩
   replace hS33 : St w (fun _ _ => none) w31 (fun _ _ => none) [.box b8 [(i64 q28)] 3, .box b2 [(str s)] 9, .box b5 [(i64 0), (i64 0), (str []), (str []), (.bool false), (i64 0)] 31] := hS33
   refine RL.u (.and (.t rfl) (.t rfl)) rfl ?_
   refine RL.nil (CW.at [Y 1 (.pointer (some ⟨b2, 0, none⟩)), Y 2 (.pointer (some ⟨b5, 0, none⟩)), Y 5 (.pointer (some ⟨b8, 0, none⟩)), Y 6 (.func (.func 62) #[] #[(.pointer (some ⟨b8, 0, none⟩)), (.pointer (some ⟨b2, 0, none⟩))]), Y 7 (.func (.func 64) #[] #[(.pointer (some ⟨b8, 0, none⟩)), (.pointer (some ⟨b2, 0, none⟩))]), Y 8 (.bool c13), Y 10 (str (Eng.sub (s) (q12) (q19))), Y 11 (.bool ((Eng.sub (s) (q12) (q19)) == ([]))), Y 12 (i64 0), Y 45 (.bool ((!((Eng.sub (s) (q12) (q19)) == ([]))) && (c29)))] rfl ?_)
   refine CW.cond rfl (fun hb2 => ?_) (fun hb2 => ?_)
   ·try simp only [zb, hb1, hg27', and_true, true_and, false_or, or_false, not_true_eq_false, not_false_eq_true] at hb2
    refine CW.sr ?_
    refine RL.m rfl rfl ?_
    replace hS33 : St w (fun _ _ => none) w31 (fun _ _ => none) [.box b2 [(str s)] 9, .box b8 [(i64 q28)] 3, .box b5 [(i64 0), (i64 0), (str []), (str []), (.bool false), (i64 0)] 31] := hS33.front 1 rfl rfl
    replace hS33 : St w (fun _ _ => none) w31 (fun _ _ => none) [.box b8 [(i64 q28)] 3, .box b2 [(str s)] 9, .box b5 [(i64 0), (i64 0), (str []), (str []), (.bool false), (i64 0)] 31] := hS33.front 1 rfl rfl
    refine RL.callC (fs := []) (cs := [(.pointer (some ⟨b8, 0, none⟩)), (.pointer (some ⟨b2, 0, none⟩))]) Tryz.call62 (.t rfl) .nil (take_q (Rs := [.box b5 [(i64 0), (i64 0), (str []), (str []), (.bool false), (i64 0)] 31]) (s) (q28) b8 b2 hS33 (by omega) (by omega) (by omega)) rfl ?_
    rintro v36 w37 ⟨q35, hq35, hq35a, hq35b, hq35c, rfl, hS39⟩
    replace hS39 : St w (fun _ _ => none) w37 (fun _ _ => none) [.box b8 [(i64 q35)] 3, .box b2 [(str s)] 9, .box b5 [(i64 0), (i64 0), (str []), (str []), (.bool false), (i64 0)] 31] := hS39
    refine RL.a rfl rfl ?_
    refine RL.nil (CW.at [Y 1 (.pointer (some ⟨b2, 0, none⟩)), Y 2 (.pointer (some ⟨b5, 0, none⟩)), Y 5 (.pointer (some ⟨b8, 0, none⟩)), Y 6 (.func (.func 62) #[] #[(.pointer (some ⟨b8, 0, none⟩)), (.pointer (some ⟨b2, 0, none⟩))]), Y 7 (.func (.func 64) #[] #[(.pointer (some ⟨b8, 0, none⟩)), (.pointer (some ⟨b2, 0, none⟩))]), Y 8 (.bool c13), Y 10 (str (Eng.sub (s) (q12) (q19))), Y 13 (str (Eng.sub (s) (q28) (q35)))] rfl ?_)
    refine CW.sr ?_
    refine RL.m rfl rfl (RL.u (.seql (.t rfl) .c) rfl (RL.a rfl rfl ?_))
    refine RL.nil (CW.at [Y 1 (.pointer (some ⟨b2, 0, none⟩)), Y 2 (.pointer (some ⟨b5, 0, none⟩)), Y 5 (.pointer (some ⟨b8, 0, none⟩)), Y 6 (.func (.func 62) #[] #[(.pointer (some ⟨b8, 0, none⟩)), (.pointer (some ⟨b2, 0, none⟩))]), Y 7 (.func (.func 64) #[] #[(.pointer (some ⟨b8, 0, none⟩)), (.pointer (some ⟨b2, 0, none⟩))]), Y 8 (.bool c13), Y 10 (str (Eng.sub (s) (q12) (q19))), Y 11 (.bool ((Eng.sub (s) (q28) (q35)) == ([]))), Y 13 (str (Eng.sub (s) (q28) (q35)))] rfl ?_)
    refine CW.sr ?_
    refine RL.m rfl rfl (RL.m rfl rfl (RL.u (.sadd (.t rfl) (.t rfl) (fun _ => by first | omega | (simp only [len_app, len_cons, len_nil] at *; omega))) rfl (RL.a rfl rfl ?_)))
    refine RL.nil (CW.at [Y 1 (.pointer (some ⟨b2, 0, none⟩)), Y 2 (.pointer (some ⟨b5, 0, none⟩)), Y 5 (.pointer (some ⟨b8, 0, none⟩)), Y 6 (.func (.func 62) #[] #[(.pointer (some ⟨b8, 0, none⟩)), (.pointer (some ⟨b2, 0, none⟩))]), Y 7 (.func (.func 64) #[] #[(.pointer (some ⟨b8, 0, none⟩)), (.pointer (some ⟨b2, 0, none⟩))]), Y 8 (.bool c13), Y 10 (str ((Eng.sub (s) (q12) (q19)) ++ (Eng.sub (s) (q28) (q35)))), Y 11 (.bool ((Eng.sub (s) (q28) (q35)) == ([]))), Y 13 (str (Eng.sub (s) (q28) (q35)))] rfl ?_)
    refine CW.region ?_
    refine RL.m rfl rfl (RL.u (.lenS (.t rfl) Tryz.underlying9) rfl (RL.u (.negK (r := -(len (Eng.sub (s) (q28) (q35)))) (.t rfl) (fun _ => by exact Eng.wrap_i64 (by omega))) rfl (RL.a rfl rfl ?_)))
    refine RL.nil (CW.at [Y 1 (.pointer (some ⟨b2, 0, none⟩)), Y 2 (.pointer (some ⟨b5, 0, none⟩)), Y 5 (.pointer (some ⟨b8, 0, none⟩)), Y 6 (.func (.func 62) #[] #[(.pointer (some ⟨b8, 0, none⟩)), (.pointer (some ⟨b2, 0, none⟩))]), Y 7 (.func (.func 64) #[] #[(.pointer (some ⟨b8, 0, none⟩)), (.pointer (some ⟨b2, 0, none⟩))]), Y 8 (.bool c13), Y 10 (str ((Eng.sub (s) (q12) (q19)) ++ (Eng.sub (s) (q28) (q35)))), Y 11 (.bool ((Eng.sub (s) (q28) (q35)) == ([]))), Y 12 (i64 (-(len (Eng.sub (s) (q28) (q35)))))] rfl ?_)
    refine CW.sr ?_
    refine RL.u (.assign .c) rfl (RL.u (.assign .c) rfl ?_)
    refine RL.nil (CW.at [Y 1 (.pointer (some ⟨b2, 0, none⟩)), Y 2 (.pointer (some ⟨b5, 0, none⟩)), Y 5 (.pointer (some ⟨b8, 0, none⟩)), Y 6 (.func (.func 62) #[] #[(.pointer (some ⟨b8, 0, none⟩)), (.pointer (some ⟨b2, 0, none⟩))]), Y 7 (.func (.func 64) #[] #[(.pointer (some ⟨b8, 0, none⟩)), (.pointer (some ⟨b2, 0, none⟩))]), Y 8 (.bool c13), Y 10 (str ((Eng.sub (s) (q12) (q19)) ++ (Eng.sub (s) (q28) (q35)))), Y 11 (.bool ((Eng.sub (s) (q28) (q35)) == ([]))), Y 12 (i64 (-(len (Eng.sub (s) (q28) (q35))))), Y 14 (str []), Y 15 (i64 1)] rfl ?_)
    refine CW.seq ?_
    refine CW.sr ?_
    refine RL.m rfl rfl (RL.u (.not (.t rfl)) rfl (RL.m rfl rfl (RL.v (.pos rfl rfl) (.move (.t rfl)) rfl ?_)))
    refine RL.split (.pos rfl rfl) rfl (fun hg41 => ?_) (fun hg41 => ?_)
    ·have hg41' := hg41
     try simp only [zb] at hg41'
     replace hS39 : St w (fun _ _ => none) w37 (fun _ _ => none) [.box b2 [(str s)] 9, .box b8 [(i64 q35)] 3, .box b5 [(i64 0), (i64 0), (str []), (str []), (.bool false), (i64 0)] 31] := hS39.front 1 rfl rfl
     replace hS39 : St w (fun _ _ => none) w37 (fun _ _ => none) [.box b8 [(i64 q35)] 3, .box b2 [(str s)] 9, .box b5 [(i64 0), (i64 0), (str []), (str []), (.bool false), (i64 0)] 31] := hS39.front 1 rfl rfl
     refine RL.callC (fs := []) (cs := [(.pointer (some ⟨b8, 0, none⟩)), (.pointer (some ⟨b2, 0, none⟩))]) Tryz.call64 (.g rfl (fun _ => hg41)) (.cons .c .nil) (is_q (Rs := [.box b5 [(i64 0), (i64 0), (str []), (str []), (.bool false), (i64 0)] 31]) (s) ([101, 69]) (q35) b8 b2 hS39 (by omega) (by omega) (by omega)) rfl ?_
     rintro v44 w45 ⟨q42, c43, hq42, hc43, hq42a, hq42b, hc43y, hc43n, rfl, hS47⟩
     replace hS47 : St w (fun _ _ => none) w45 (fun _ _ => none) [.box b8 [(i64 q42)] 3, .box b2 [(str s)] 9, .box b5 [(i64 0), (i64 0), (str []), (str []), (.bool false), (i64 0)] 31] := hS47
     refine RL.u (.and (.t rfl) (.t rfl)) rfl ?_
     refine RL.nil (CW.at [Y 1 (.pointer (some ⟨b2, 0, none⟩)), Y 2 (.pointer (some ⟨b5, 0, none⟩)), Y 5 (.pointer (some ⟨b8, 0, none⟩)), Y 6 (.func (.func 62) #[] #[(.pointer (some ⟨b8, 0, none⟩)), (.pointer (some ⟨b2, 0, none⟩))]), Y 7 (.func (.func 64) #[] #[(.pointer (some ⟨b8, 0, none⟩)), (.pointer (some ⟨b2, 0, none⟩))]), Y 8 (.bool c13), Y 10 (str ((Eng.sub (s) (q12) (q19)) ++ (Eng.sub (s) (q28) (q35)))), Y 11 (.bool ((Eng.sub (s) (q28) (q35)) == ([]))), Y 12 (i64 (-(len (Eng.sub (s) (q28) (q35))))), Y 14 (str []), Y 15 (i64 1), Y 61 (.bool ((!((Eng.sub (s) (q28) (q35)) == ([]))) && (c43)))] rfl ?_)
     refine CW.cond rfl (fun hb3 => ?_) (fun hb3 => ?_)
     ·try simp only [zb, hb1, hg27', hb2, hg41', and_true, true_and, false_or, or_false, not_true_eq_false, not_false_eq_true] at hb3
      refine CW.seq ?_
      refine CW.sr ?_
      refine RL.m rfl rfl ?_
      replace hS47 : St w (fun _ _ => none) w45 (fun _ _ => none) [.box b2 [(str s)] 9, .box b8 [(i64 q42)] 3, .box b5 [(i64 0), (i64 0), (str []), (str []), (.bool false), (i64 0)] 31] := hS47.front 1 rfl rfl
      replace hS47 : St w (fun _ _ => none) w45 (fun _ _ => none) [.box b8 [(i64 q42)] 3, .box b2 [(str s)] 9, .box b5 [(i64 0), (i64 0), (str []), (str []), (.bool false), (i64 0)] 31] := hS47.front 1 rfl rfl
      refine RL.callC (fs := []) (cs := [(.pointer (some ⟨b8, 0, none⟩)), (.pointer (some ⟨b2, 0, none⟩))]) Tryz.call64 (.t rfl) (.cons .c .nil) (is_q (Rs := [.box b5 [(i64 0), (i64 0), (str []), (str []), (.bool false), (i64 0)] 31]) (s) ([45]) (q42) b8 b2 hS47 (by omega) (by omega) (by omega)) rfl ?_
      rintro v51 w52 ⟨q49, c50, hq49, hc50, hq49a, hq49b, hc50y, hc50n, rfl, hS54⟩
      replace hS54 : St w (fun _ _ => none) w52 (fun _ _ => none) [.box b8 [(i64 q49)] 3, .box b2 [(str s)] 9, .box b5 [(i64 0), (i64 0), (str []), (str []), (.bool false), (i64 0)] 31] := hS54
      refine RL.nil (CW.at [Y 1 (.pointer (some ⟨b2, 0, none⟩)), Y 2 (.pointer (some ⟨b5, 0, none⟩)), Y 5 (.pointer (some ⟨b8, 0, none⟩)), Y 6 (.func (.func 62) #[] #[(.pointer (some ⟨b8, 0, none⟩)), (.pointer (some ⟨b2, 0, none⟩))]), Y 7 (.func (.func 64) #[] #[(.pointer (some ⟨b8, 0, none⟩)), (.pointer (some ⟨b2, 0, none⟩))]), Y 8 (.bool c13), Y 10 (str ((Eng.sub (s) (q12) (q19)) ++ (Eng.sub (s) (q28) (q35)))), Y 12 (i64 (-(len (Eng.sub (s) (q28) (q35))))), Y 15 (i64 1), Y 63 (.bool c50)] rfl ?_)
      refine CW.cond rfl (fun hb4 => ?_) (fun hb4 => ?_)
      ·try simp only [zb, hb1, hg27', hb2, hg41', hb3, and_true, true_and, false_or, or_false, not_true_eq_false, not_false_eq_true] at hb4
       refine CW.region ?_
       refine RL.u (.assign .c) rfl ?_
       refine RL.nil (CW.at [Y 1 (.pointer (some ⟨b2, 0, none⟩)), Y 2 (.pointer (some ⟨b5, 0, none⟩)), Y 5 (.pointer (some ⟨b8, 0, none⟩)), Y 6 (.func (.func 62) #[] #[(.pointer (some ⟨b8, 0, none⟩)), (.pointer (some ⟨b2, 0, none⟩))]), Y 8 (.bool c13), Y 10 (str ((Eng.sub (s) (q12) (q19)) ++ (Eng.sub (s) (q28) (q35)))), Y 12 (i64 (-(len (Eng.sub (s) (q28) (q35))))), Y 15 (i64 (-1))] rfl ?_)
       refine CW.sr ?_
       refine RL.m rfl rfl ?_
       replace hS54 : St w (fun _ _ => none) w52 (fun _ _ => none) [.box b2 [(str s)] 9, .box b8 [(i64 q49)] 3, .box b5 [(i64 0), (i64 0), (str []), (str []), (.bool false), (i64 0)] 31] := hS54.front 1 rfl rfl
       replace hS54 : St w (fun _ _ => none) w52 (fun _ _ => none) [.box b8 [(i64 q49)] 3, .box b2 [(str s)] 9, .box b5 [(i64 0), (i64 0), (str []), (str []), (.bool false), (i64 0)] 31] := hS54.front 1 rfl rfl
       refine RL.callC (fs := []) (cs := [(.pointer (some ⟨b8, 0, none⟩)), (.pointer (some ⟨b2, 0, none⟩))]) Tryz.call62 (.t rfl) .nil (take_q (Rs := [.box b5 [(i64 0), (i64 0), (str []), (str []), (.bool false), (i64 0)] 31]) (s) (q49) b8 b2 hS54 (by omega) (by omega) (by omega)) rfl ?_
       rintro v57 w58 ⟨q56, hq56, hq56a, hq56b, hq56c, rfl, hS60⟩
       replace hS60 : St w (fun _ _ => none) w58 (fun _ _ => none) [.box b8 [(i64 q56)] 3, .box b2 [(str s)] 9, .box b5 [(i64 0), (i64 0), (str []), (str []), (.bool false), (i64 0)] 31] := hS60
       refine RL.a rfl rfl ?_
       refine RL.nil (CW.at [Y 1 (.pointer (some ⟨b2, 0, none⟩)), Y 2 (.pointer (some ⟨b5, 0, none⟩)), Y 5 (.pointer (some ⟨b8, 0, none⟩)), Y 8 (.bool c13), Y 10 (str ((Eng.sub (s) (q12) (q19)) ++ (Eng.sub (s) (q28) (q35)))), Y 12 (i64 (-(len (Eng.sub (s) (q28) (q35))))), Y 14 (str (Eng.sub (s) (q49) (q56))), Y 15 (i64 (-1))] rfl ?_)
       refine CW.region ?_
       refine RL.m rfl rfl (RL.u (.seql (.t rfl) .c) rfl (RL.a rfl rfl ?_))
       refine RL.nil (CW.at [Y 1 (.pointer (some ⟨b2, 0, none⟩)), Y 2 (.pointer (some ⟨b5, 0, none⟩)), Y 5 (.pointer (some ⟨b8, 0, none⟩)), Y 8 (.bool c13), Y 10 (str ((Eng.sub (s) (q12) (q19)) ++ (Eng.sub (s) (q28) (q35)))), Y 11 (.bool ((Eng.sub (s) (q49) (q56)) == ([]))), Y 12 (i64 (-(len (Eng.sub (s) (q28) (q35))))), Y 14 (str (Eng.sub (s) (q49) (q56))), Y 15 (i64 (-1))] rfl ?_)
       refine CW.seq ?_
       refine CW.sr ?_
       refine RL.m rfl rfl (RL.m rfl rfl (RL.v (.neg rfl rfl) (.loadB1 (v := (i64 q56)) hS60 extEq (i := 0) rfl (.t rfl) Tryz.isAgg3 rfl) rfl (RL.v (.neg rfl rfl) (.loadB1 (v := (str s)) hS60 extEq (i := 1) rfl (.t rfl) Tryz.isAgg9 rfl) rfl (RL.v (.neg rfl rfl) (.lenS (.g rfl (fun h => h)) Tryz.underlying9) rfl (RL.v (.neg rfl rfl) (.lss (.g rfl (fun h => h)) (.g rfl (fun h => h))) rfl ?_)))))
       refine RL.u (.or (.t rfl) (.g rfl (fun h => h))) rfl ?_
       refine RL.nil (CW.at [Y 2 (.pointer (some ⟨b5, 0, none⟩)), Y 5 (.pointer (some ⟨b8, 0, none⟩)), Y 8 (.bool c13), Y 10 (str ((Eng.sub (s) (q12) (q19)) ++ (Eng.sub (s) (q28) (q35)))), Y 12 (i64 (-(len (Eng.sub (s) (q28) (q35))))), Y 14 (str (Eng.sub (s) (q49) (q56))), Y 15 (i64 (-1)), Y 76 (.bool (((Eng.sub (s) (q49) (q56)) == ([])) || (decide ((q56) < (len (s))))))] rfl ?_)
       refine CW.cond rfl (fun hb5 => ?_) (fun hb5 => ?_)
       ·try simp only [zb, hb1, hg27', hb2, hg41', hb3, hb4, and_true, true_and, false_or, or_false, not_true_eq_false, not_false_eq_true] at hb5
        refine CW.seq ?_
        refine CW.weaken [2, 5, 8, 10, 12, 14, 15] (L' := [Y 2 (.pointer (some ⟨b5, 0, none⟩)), Y 5 (.pointer (some ⟨b8, 0, none⟩)), Y 8 (.bool c13), Y 10 (str ((Eng.sub (s) (q12) (q19)) ++ (Eng.sub (s) (q28) (q35)))), Y 12 (i64 (-(len (Eng.sub (s) (q28) (q35))))), Y 14 (str (Eng.sub (s) (q49) (q56))), Y 15 (i64 (-1))]) ?_ rfl
        refine CW.regionF [.is (true) (.agg #[(i64 0), (i64 0), (str []), (str []), (.bool false), (i64 0)]), .is (true) (i64 q56), .any, .is (true) (i64 q56), .is (true) (i64 1)] hS60 tryz_mixed [2, 5, 8, 10, 12, 14, 15] rfl (by decide +kernel) (.cons ?_ (.cons ?_ (.cons ?_ (.cons ?_ (.cons ?_ (.nil)))))) ?_
        ·intro LL w62 M63 hle65 hS64 hK hD
         refine RL.u (.build (vs := []) (v := (.agg #[(i64 0), (i64 0), (str []), (str []), (.bool false), (i64 0)])) .nil (fun w => by kernel_rfl)) rfl ?_
         exact RL.nil (RA.next fun a hs => ⟨_, _, Mem.le.refl _, hS64, hs, _, _, rfl, rfl, rfl⟩)
        ·intro LL w66 M67 hle69 hS68 hK hD
         refine RL.u (.loadB1 (v := (i64 q56)) hS68 extEq (i := 0) rfl (.t (hK _ _ rfl)) Tryz.isAgg3 rfl) rfl ?_
         exact RL.nil (RA.next fun a hs => ⟨_, _, Mem.le.refl _, hS68, hs, _, _, rfl, rfl, rfl⟩)
        ·intro LL w70 M71 hle73 hS72 hK hD
         obtain ⟨g77, v77, hl77, rfl, rfl⟩ := hD 0 (by decide +kernel)
         obtain ⟨g77, v77, hl77, rfl, rfl⟩ := hD 0 (by decide +kernel)
         refine RL.st hS72 (i := 2) rfl (.t (hK _ _ rfl)) (.t hl77) Tryz.sizeOf31 rfl rfl rfl (Hs' := [.box b8 [(i64 q56)] 3, .box b2 [(str s)] 9, .box b5 [(i64 0), (i64 0), (str []), (str []), (.bool false), (i64 0)] 31]) rfl rfl (fun w74 hS75 => ?_)
         exact RL.nil (RA.next fun a hs => ⟨_, _, Mem.le.refl _, hS75, hs, rfl⟩)
        ·intro LL w76 M77 hle79 hS78 hK hD
         obtain ⟨g78, v78, hl78, rfl, rfl⟩ := hD 1 (by decide +kernel)
         obtain ⟨g78, v78, hl78, rfl, rfl⟩ := hD 1 (by decide +kernel)
         refine RL.u (.assign (.t hl78)) rfl ?_
         exact RL.nil (RA.next fun a hs => ⟨_, _, Mem.le.refl _, hS78, hs, _, _, rfl, rfl, rfl⟩)
        ·intro LL w80 M81 hle83 hS82 hK hD
         refine RL.u (.assign .c) rfl ?_
         exact RL.nil (RA.next fun a hs => ⟨_, _, Mem.le.refl _, hS82, hs, _, _, rfl, rfl, rfl⟩)
        intro w84 M85 LL hle87 hS86 hK hD
        obtain ⟨g3, v3, hl3, rfl, rfl⟩ := hD 3 (by decide)
        obtain ⟨g4, v4, hl4, rfl, rfl⟩ := hD 4 (by decide)
        refine slots_sub (E := [Y 2 (.pointer (some ⟨b5, 0, none⟩)), Y 3 (i64 q56), Y 4 (i64 1), Y 5 (.pointer (some ⟨b8, 0, none⟩)), Y 8 (.bool c13), Y 10 (str ((Eng.sub (s) (q12) (q19)) ++ (Eng.sub (s) (q28) (q35)))), Y 12 (i64 (-(len (Eng.sub (s) (q28) (q35))))), Y 14 (str (Eng.sub (s) (q49) (q56))), Y 15 (i64 (-1))]) (.cons (hK _ _ rfl) (.cons (hl3) (.cons (hl4) (.cons (hK _ _ rfl) (.cons (hK _ _ rfl) (.cons (hK _ _ rfl) (.cons (hK _ _ rfl) (.cons (hK _ _ rfl) (.cons (hK _ _ rfl) .nil))))))))) ?_
        replace hS86 : St w (fun _ _ => none) w84 M85 [.box b8 [(i64 q56)] 3, .box b2 [(str s)] 9, .box b5 [(i64 0), (i64 0), (str []), (str []), (.bool false), (i64 0)] 31] := hS86
        refine (CW.at [Y 2 (.pointer (some ⟨b5, 0, none⟩)), Y 3 (i64 q56), Y 4 (i64 1)] rfl ?_)
        refine CW.ret (retR3 (P := Tryz.prog) (fn := Tryz.f32) (R := fun e w' => e = .returned (.tuple #[(ndV ((read1 s).1)), (i64 ((read1 s).2.1)), (i64 ((read1 s).2.2))]) ∧ Ext w w') rfl (.boxN hS86 (i := 2) rfl rfl Tryz.isAgg31 Tryz.sizeOf31) (show RV _ _ _ (.tmp _) _ from rfl) (show RV _ _ _ (.tmp _) _ from rfl) ?_)
        refine ⟨?_, hS86.low⟩
        have hr : read1 s = (⟨0, 0, [], [], false, 0⟩, q56, 1) := by
         unfold read1 rest1 exp1 fin1
         simp only [← hq12, ← hc13, ← hq19, ← hq28, ← hc29, ← hq35, ← hq42, ← hc43, ← hq49, ← hc50, ← hq56, hb1, hg27', hb2, hg41', hb3, hb4, hb5, hb1n, if_true, if_false, reduceIte, or_self, or_true, true_or, and_self, and_true, true_and, false_and, and_false, or_false, false_or, Bool.false_eq_true, not_true_eq_false, not_false_eq_true, beq_self_eq_true]
         all_goals first | rfl | (exfalso; simp [hg27', hb2, hg41', hb3, hb4, hb5] at hb1; done) | (exfalso; simp [hb1, hb2, hg41', hb3, hb4, hb5] at hg27'; done) | (exfalso; simp [hb1, hg27', hg41', hb3, hb4, hb5] at hb2; done) | (exfalso; simp [hb1, hg27', hb2, hb3, hb4, hb5] at hg41'; done) | (exfalso; simp [hb1, hg27', hb2, hg41', hb4, hb5] at hb3; done) | (exfalso; simp [hb1, hg27', hb2, hg41', hb3, hb5] at hb4; done) | (exfalso; simp [hb1, hg27', hb2, hg41', hb3, hb4] at hb5; done)
        rw [hr]
       ·try simp only [zb, hb1, hg27', hb2, hg41', hb3, hb4, and_true, true_and, false_or, or_false, not_true_eq_false, not_false_eq_true] at hb5
        refine CW.skip (CW.at [Y 2 (.pointer (some ⟨b5, 0, none⟩)), Y 8 (.bool c13), Y 10 (str ((Eng.sub (s) (q12) (q19)) ++ (Eng.sub (s) (q28) (q35)))), Y 12 (i64 (-(len (Eng.sub (s) (q28) (q35))))), Y 14 (str (Eng.sub (s) (q49) (q56))), Y 15 (i64 (-1))] rfl ?_)
        refine CW.sr ?_
        refine RL.m rfl rfl ?_
        refine RL.callE hS60 .none Tryz.call15 (.cons (.t rfl) (.cons .c .nil)) (fun _ => (trimLeft_c (Eng.sub (s) (q49) (q56)) ([48]) _ (by decide) (cut_low (by decide)))) rfl (fun w88 hS89 => ?_)
        refine RL.a rfl rfl ?_
        refine RL.nil (CW.at [Y 2 (.pointer (some ⟨b5, 0, none⟩)), Y 8 (.bool c13), Y 10 (str ((Eng.sub (s) (q12) (q19)) ++ (Eng.sub (s) (q28) (q35)))), Y 12 (i64 (-(len (Eng.sub (s) (q28) (q35))))), Y 14 (str (dropZ (Eng.sub (s) (q49) (q56)))), Y 15 (i64 (-1))] rfl ?_)
        refine CW.seq ?_
        refine CW.sr ?_
        refine RL.m rfl rfl (RL.u (.lenS (.t rfl) Tryz.underlying9) rfl (RL.u (.gtr (.t rfl) .c) rfl ?_))
        refine RL.nil (CW.at [Y 2 (.pointer (some ⟨b5, 0, none⟩)), Y 8 (.bool c13), Y 10 (str ((Eng.sub (s) (q12) (q19)) ++ (Eng.sub (s) (q28) (q35)))), Y 12 (i64 (-(len (Eng.sub (s) (q28) (q35))))), Y 14 (str (dropZ (Eng.sub (s) (q49) (q56)))), Y 15 (i64 (-1)), Y 83 (.bool (decide ((6) < (len (dropZ (Eng.sub (s) (q49) (q56)))))))] rfl ?_)
        refine CW.cond rfl (fun hb6 => ?_) (fun hb6 => ?_)
        ·try simp only [zb, hb1, hg27', hb2, hg41', hb3, hb4, hb5, and_true, true_and, false_or, or_false, not_true_eq_false, not_false_eq_true] at hb6
         refine CW.sr ?_
         refine RL.u (.build (vs := []) (v := (.agg #[(i64 0), (i64 0), (str []), (str []), (.bool false), (i64 0)])) .nil (fun w => by kernel_rfl)) rfl ?_
         refine RL.st hS89 (i := 2) rfl (.t rfl) (.t rfl) Tryz.sizeOf31 rfl rfl rfl (Hs' := [.box b8 [(i64 q56)] 3, .box b2 [(str s)] 9, .box b5 [(i64 0), (i64 0), (str []), (str []), (.bool false), (i64 0)] 31]) rfl rfl (fun w90 hS91 => ?_)
         refine RL.u (.assign .c) rfl (RL.u (.assign .c) rfl ?_)
         refine RL.nil (CW.at [Y 2 (.pointer (some ⟨b5, 0, none⟩)), Y 3 (i64 0), Y 4 (i64 2)] rfl ?_)
         refine CW.ret (retR3 (P := Tryz.prog) (fn := Tryz.f32) (R := fun e w' => e = .returned (.tuple #[(ndV ((read1 s).1)), (i64 ((read1 s).2.1)), (i64 ((read1 s).2.2))]) ∧ Ext w w') rfl (.boxN hS91 (i := 2) rfl rfl Tryz.isAgg31 Tryz.sizeOf31) (show RV _ _ _ (.tmp _) _ from rfl) (show RV _ _ _ (.tmp _) _ from rfl) ?_)
         refine ⟨?_, hS91.low⟩
         have hr : read1 s = (⟨0, 0, [], [], false, 0⟩, 0, 2) := by
          unfold read1 rest1 exp1 fin1
          simp only [← hq12, ← hc13, ← hq19, ← hq28, ← hc29, ← hq35, ← hq42, ← hc43, ← hq49, ← hc50, ← hq56, hb1, hg27', hb2, hg41', hb3, hb4, hb5, hb6, hb1n, if_true, if_false, reduceIte, or_self, or_true, true_or, and_self, and_true, true_and, false_and, and_false, or_false, false_or, Bool.false_eq_true, not_true_eq_false, not_false_eq_true, beq_self_eq_true]
          all_goals first | rfl | (exfalso; simp [hg27', hb2, hg41', hb3, hb4, hb5, hb6] at hb1; done) | (exfalso; simp [hb1, hb2, hg41', hb3, hb4, hb5, hb6] at hg27'; done) | (exfalso; simp [hb1, hg27', hg41', hb3, hb4, hb5, hb6] at hb2; done) | (exfalso; simp [hb1, hg27', hb2, hb3, hb4, hb5, hb6] at hg41'; done) | (exfalso; simp [hb1, hg27', hb2, hg41', hb4, hb5, hb6] at hb3; done) | (exfalso; simp [hb1, hg27', hb2, hg41', hb3, hb5, hb6] at hb4; done) | (exfalso; simp [hb1, hg27', hb2, hg41', hb3, hb4, hb6] at hb5; done) | (exfalso; simp [hb1, hg27', hb2, hg41', hb3, hb4, hb5] at hb6; done)
         rw [hr]
        ·try simp only [zb, hb1, hg27', hb2, hg41', hb3, hb4, hb5, and_true, true_and, false_or, or_false, not_true_eq_false, not_false_eq_true] at hb6
         refine CW.skip (CW.at [Y 2 (.pointer (some ⟨b5, 0, none⟩)), Y 8 (.bool c13), Y 10 (str ((Eng.sub (s) (q12) (q19)) ++ (Eng.sub (s) (q28) (q35)))), Y 12 (i64 (-(len (Eng.sub (s) (q28) (q35))))), Y 14 (str (dropZ (Eng.sub (s) (q49) (q56)))), Y 15 (i64 (-1))] rfl ?_)
         refine CW.sr ?_
         refine RL.m rfl rfl (RL.u (.sadd .c (.t rfl) (fun _ => by first | omega | (simp only [len_app, len_cons, len_nil] at *; omega))) rfl ?_)
         have hv92 := atoi_figs (l := dropZ (Eng.sub (s) (q49) (q56))) (by first | (refine figs_drop ?_; subst_vars; exact figs_run (by omega)) | (intro b hb; cases hb)) (by omega)
         refine RL.callE hS89 .none Tryz.call66 (.cons (.t rfl) .nil) (fun _ => (atoi_c ([48] ++ (dropZ (Eng.sub (s) (q49) (q56)))) (decVal (dropZ (Eng.sub (s) (q49) (q56)))) _ (by simp only [len_app, len_cons, len_nil] at *; omega) hv92.1)) rfl (fun w93 hS94 => ?_)
         refine RL.m rfl rfl (RL.u (.ex (.t rfl) rfl) rfl (RL.u (.ex (.t rfl) rfl) rfl (RL.a rfl rfl (RL.a rfl rfl ?_))))
         refine RL.nil (CW.at [Y 2 (.pointer (some ⟨b5, 0, none⟩)), Y 8 (.bool c13), Y 10 (str ((Eng.sub (s) (q12) (q19)) ++ (Eng.sub (s) (q28) (q35)))), Y 12 (i64 (-(len (Eng.sub (s) (q28) (q35))))), Y 15 (i64 (-1)), Y 16 (i64 (decVal (dropZ (Eng.sub (s) (q49) (q56)))))] rfl ?_)
         refine CW.sr ?_
         refine RL.m rfl rfl (RL.m rfl rfl (RL.m rfl rfl (RL.m rfl rfl (RL.m rfl rfl (RL.u (.mul (.t rfl) (.t rfl) (fun _ => by first | omega | (simp only [len_app, len_cons, len_nil] at *; omega))) rfl ?_)))))
         refine RL.u (.add (.t rfl) (.t rfl) (fun _ => by first | omega | (simp only [len_app, len_cons, len_nil] at *; omega))) rfl ?_
         refine RL.callE hS94 .none Tryz.call67 (.cons (.t rfl) (.cons (.t rfl) (.cons (.t rfl) .nil))) (fun _ => (make_c (c13) ((Eng.sub (s) (q12) (q19)) ++ (Eng.sub (s) (q28) (q35))) ((-(len (Eng.sub (s) (q28) (q35)))) + (((-1)) * (decVal (dropZ (Eng.sub (s) (q49) (q56)))))) _ (hg.low hS94.low) (by first | omega | (simp only [len_app] at *; omega)))) rfl (fun w95 hS96 => ?_)
         refine RL.m rfl rfl (RL.u (.ex (.t rfl) rfl) rfl (RL.u (.ex (.t rfl) rfl) rfl ?_))
         refine RL.alloc hS96 Tryz.zeroValue31 rfl (fun w97 b98 hS99 => ?_)
         replace hS99 : St w (fun _ _ => none) w97 (fun _ _ => none) [.box b98 [(i64 0), (i64 0), (str []), (str []), (.bool false), (i64 0)] 31, .box b8 [(i64 q56)] 3, .box b2 [(str s)] 9, .box b5 [(i64 0), (i64 0), (str []), (str []), (.bool false), (i64 0)] 31] := hS99
         refine RL.st hS99 (i := 0) rfl (.t rfl) (.t rfl) Tryz.sizeOf31 rfl rfl rfl (Hs' := [.box b98 (ndC ((mk1 (c13) ((Eng.sub (s) (q12) (q19)) ++ (Eng.sub (s) (q28) (q35))) ((-(len (Eng.sub (s) (q28) (q35)))) + (((-1)) * (decVal (dropZ (Eng.sub (s) (q49) (q56))))))).1) []) 31, .box b8 [(i64 q56)] 3, .box b2 [(str s)] 9, .box b5 [(i64 0), (i64 0), (str []), (str []), (.bool false), (i64 0)] 31]) rfl rfl (fun w100 hS101 => ?_)
         refine RL.a rfl rfl ?_
         refine RL.nil (CW.at [Y 2 (.pointer (some ⟨b5, 0, none⟩)), Y 18 (.pointer (some ⟨b98, 0, none⟩)), Y 19 (i64 ((mk1 (c13) ((Eng.sub (s) (q12) (q19)) ++ (Eng.sub (s) (q28) (q35))) ((-(len (Eng.sub (s) (q28) (q35)))) + (((-1)) * (decVal (dropZ (Eng.sub (s) (q49) (q56))))))).2))] rfl ?_)
         refine CW.sr ?_
         refine RL.u (.loadBN (vs := (ndC ((mk1 (c13) ((Eng.sub (s) (q12) (q19)) ++ (Eng.sub (s) (q28) (q35))) ((-(len (Eng.sub (s) (q28) (q35)))) + (((-1)) * (decVal (dropZ (Eng.sub (s) (q49) (q56))))))).1) [])) hS101 extEq (i := 0) rfl (.t rfl) Tryz.isAgg31 Tryz.sizeOf31 rfl rfl) rfl (RL.m rfl rfl ?_)
         refine RL.st hS101 (i := 3) rfl (.t rfl) (.t rfl) Tryz.sizeOf31 rfl rfl rfl (Hs' := [.box b98 (ndC ((mk1 (c13) ((Eng.sub (s) (q12) (q19)) ++ (Eng.sub (s) (q28) (q35))) ((-(len (Eng.sub (s) (q28) (q35)))) + (((-1)) * (decVal (dropZ (Eng.sub (s) (q49) (q56))))))).1) []) 31, .box b8 [(i64 q56)] 3, .box b2 [(str s)] 9, .box b5 (ndC ((mk1 (c13) ((Eng.sub (s) (q12) (q19)) ++ (Eng.sub (s) (q28) (q35))) ((-(len (Eng.sub (s) (q28) (q35)))) + (((-1)) * (decVal (dropZ (Eng.sub (s) (q49) (q56))))))).1) []) 31]) rfl rfl (fun w102 hS103 => ?_)
         refine RL.u (.assign .c) rfl (RL.a rfl rfl ?_)
         refine RL.nil (CW.at [Y 2 (.pointer (some ⟨b5, 0, none⟩)), Y 3 (i64 0), Y 4 (i64 ((mk1 (c13) ((Eng.sub (s) (q12) (q19)) ++ (Eng.sub (s) (q28) (q35))) ((-(len (Eng.sub (s) (q28) (q35)))) + (((-1)) * (decVal (dropZ (Eng.sub (s) (q49) (q56))))))).2))] rfl ?_)
         refine CW.ret (retR3 (P := Tryz.prog) (fn := Tryz.f32) (R := fun e w' => e = .returned (.tuple #[(ndV ((read1 s).1)), (i64 ((read1 s).2.1)), (i64 ((read1 s).2.2))]) ∧ Ext w w') rfl (.boxN hS103 (i := 3) rfl rfl Tryz.isAgg31 Tryz.sizeOf31) (show RV _ _ _ (.tmp _) _ from rfl) (show RV _ _ _ (.tmp _) _ from rfl) ?_)
         refine ⟨?_, hS103.low⟩
         have hr : read1 s = ((mk1 (c13) ((Eng.sub (s) (q12) (q19)) ++ (Eng.sub (s) (q28) (q35))) ((-(len (Eng.sub (s) (q28) (q35)))) + (((-1)) * (decVal (dropZ (Eng.sub (s) (q49) (q56))))))).1, 0, (mk1 (c13) ((Eng.sub (s) (q12) (q19)) ++ (Eng.sub (s) (q28) (q35))) ((-(len (Eng.sub (s) (q28) (q35)))) + (((-1)) * (decVal (dropZ (Eng.sub (s) (q49) (q56))))))).2) := by
          unfold read1 rest1 exp1 fin1
          simp only [← hq12, ← hc13, ← hq19, ← hq28, ← hc29, ← hq35, ← hq42, ← hc43, ← hq49, ← hc50, ← hq56, hb1, hg27', hb2, hg41', hb3, hb4, hb5, hb6, hb1n, if_true, if_false, reduceIte, or_self, or_true, true_or, and_self, and_true, true_and, false_and, and_false, or_false, false_or, Bool.false_eq_true, not_true_eq_false, not_false_eq_true, beq_self_eq_true]
          all_goals first | rfl | (exfalso; simp [hg27', hb2, hg41', hb3, hb4, hb5, hb6] at hb1; done) | (exfalso; simp [hb1, hb2, hg41', hb3, hb4, hb5, hb6] at hg27'; done) | (exfalso; simp [hb1, hg27', hg41', hb3, hb4, hb5, hb6] at hb2; done) | (exfalso; simp [hb1, hg27', hb2, hb3, hb4, hb5, hb6] at hg41'; done) | (exfalso; simp [hb1, hg27', hb2, hg41', hb4, hb5, hb6] at hb3; done) | (exfalso; simp [hb1, hg27', hb2, hg41', hb3, hb5, hb6] at hb4; done) | (exfalso; simp [hb1, hg27', hb2, hg41', hb3, hb4, hb6] at hb5; done) | (exfalso; simp [hb1, hg27', hb2, hg41', hb3, hb4, hb5] at hb6; done)
         rw [hr]
      ·try simp only [zb, hb1, hg27', hb2, hg41', hb3, and_true, true_and, false_or, or_false, not_true_eq_false, not_false_eq_true] at hb4
       refine CW.region ?_
       refine RL.m rfl rfl ?_
       replace hS54 : St w (fun _ _ => none) w52 (fun _ _ => none) [.box b2 [(str s)] 9, .box b8 [(i64 q49)] 3, .box b5 [(i64 0), (i64 0), (str []), (str []), (.bool false), (i64 0)] 31] := hS54.front 1 rfl rfl
       replace hS54 : St w (fun _ _ => none) w52 (fun _ _ => none) [.box b8 [(i64 q49)] 3, .box b2 [(str s)] 9, .box b5 [(i64 0), (i64 0), (str []), (str []), (.bool false), (i64 0)] 31] := hS54.front 1 rfl rfl
       refine RL.callC (fs := []) (cs := [(.pointer (some ⟨b8, 0, none⟩)), (.pointer (some ⟨b2, 0, none⟩))]) Tryz.call64 (.t rfl) (.cons .c .nil) (is_q (Rs := [.box b5 [(i64 0), (i64 0), (str []), (str []), (.bool false), (i64 0)] 31]) (s) ([43]) (q49) b8 b2 hS54 (by omega) (by omega) (by omega)) rfl ?_
       rintro v106 w107 ⟨q104, c105, hq104, hc105, hq104a, hq104b, hc105y, hc105n, rfl, hS109⟩
       replace hS109 : St w (fun _ _ => none) w107 (fun _ _ => none) [.box b8 [(i64 q104)] 3, .box b2 [(str s)] 9, .box b5 [(i64 0), (i64 0), (str []), (str []), (.bool false), (i64 0)] 31] := hS109
       refine RL.nil (CW.at [Y 1 (.pointer (some ⟨b2, 0, none⟩)), Y 2 (.pointer (some ⟨b5, 0, none⟩)), Y 5 (.pointer (some ⟨b8, 0, none⟩)), Y 6 (.func (.func 62) #[] #[(.pointer (some ⟨b8, 0, none⟩)), (.pointer (some ⟨b2, 0, none⟩))]), Y 8 (.bool c13), Y 10 (str ((Eng.sub (s) (q12) (q19)) ++ (Eng.sub (s) (q28) (q35)))), Y 12 (i64 (-(len (Eng.sub (s) (q28) (q35))))), Y 15 (i64 1)] rfl ?_)
       refine CW.sr ?_
       refine RL.m rfl rfl ?_
       replace hS109 : St w (fun _ _ => none) w107 (fun _ _ => none) [.box b2 [(str s)] 9, .box b8 [(i64 q104)] 3, .box b5 [(i64 0), (i64 0), (str []), (str []), (.bool false), (i64 0)] 31] := hS109.front 1 rfl rfl
       replace hS109 : St w (fun _ _ => none) w107 (fun _ _ => none) [.box b8 [(i64 q104)] 3, .box b2 [(str s)] 9, .box b5 [(i64 0), (i64 0), (str []), (str []), (.bool false), (i64 0)] 31] := hS109.front 1 rfl rfl
       refine RL.callC (fs := []) (cs := [(.pointer (some ⟨b8, 0, none⟩)), (.pointer (some ⟨b2, 0, none⟩))]) Tryz.call62 (.t rfl) .nil (take_q (Rs := [.box b5 [(i64 0), (i64 0), (str []), (str []), (.bool false), (i64 0)] 31]) (s) (q104) b8 b2 hS109 (by omega) (by omega) (by omega)) rfl ?_
       rintro v112 w113 ⟨q111, hq111, hq111a, hq111b, hq111c, rfl, hS115⟩
       replace hS115 : St w (fun _ _ => none) w113 (fun _ _ => none) [.box b8 [(i64 q111)] 3, .box b2 [(str s)] 9, .box b5 [(i64 0), (i64 0), (str []), (str []), (.bool false), (i64 0)] 31] := hS115
       refine RL.a rfl rfl ?_
       refine RL.nil (CW.at [Y 1 (.pointer (some ⟨b2, 0, none⟩)), Y 2 (.pointer (some ⟨b5, 0, none⟩)), Y 5 (.pointer (some ⟨b8, 0, none⟩)), Y 8 (.bool c13), Y 10 (str ((Eng.sub (s) (q12) (q19)) ++ (Eng.sub (s) (q28) (q35)))), Y 12 (i64 (-(len (Eng.sub (s) (q28) (q35))))), Y 14 (str (Eng.sub (s) (q104) (q111))), Y 15 (i64 1)] rfl ?_)
       refine CW.region ?_
       refine RL.m rfl rfl (RL.u (.seql (.t rfl) .c) rfl (RL.a rfl rfl ?_))
       refine RL.nil (CW.at [Y 1 (.pointer (some ⟨b2, 0, none⟩)), Y 2 (.pointer (some ⟨b5, 0, none⟩)), Y 5 (.pointer (some ⟨b8, 0, none⟩)), Y 8 (.bool c13), Y 10 (str ((Eng.sub (s) (q12) (q19)) ++ (Eng.sub (s) (q28) (q35)))), Y 11 (.bool ((Eng.sub (s) (q104) (q111)) == ([]))), Y 12 (i64 (-(len (Eng.sub (s) (q28) (q35))))), Y 14 (str (Eng.sub (s) (q104) (q111))), Y 15 (i64 1)] rfl ?_)
       refine CW.seq ?_
       refine CW.sr ?_
       refine RL.m rfl rfl (RL.m rfl rfl (RL.v (.neg rfl rfl) (.loadB1 (v := (i64 q111)) hS115 extEq (i := 0) rfl (.t rfl) Tryz.isAgg3 rfl) rfl (RL.v (.neg rfl rfl) (.loadB1 (v := (str s)) hS115 extEq (i := 1) rfl (.t rfl) Tryz.isAgg9 rfl) rfl (RL.v (.neg rfl rfl) (.lenS (.g rfl (fun h => h)) Tryz.underlying9) rfl (RL.v (.neg rfl rfl) (.lss (.g rfl (fun h => h)) (.g rfl (fun h => h))) rfl ?_)))))
       refine RL.u (.or (.t rfl) (.g rfl (fun h => h))) rfl ?_
       refine RL.nil (CW.at [Y 2 (.pointer (some ⟨b5, 0, none⟩)), Y 5 (.pointer (some ⟨b8, 0, none⟩)), Y 8 (.bool c13), Y 10 (str ((Eng.sub (s) (q12) (q19)) ++ (Eng.sub (s) (q28) (q35)))), Y 12 (i64 (-(len (Eng.sub (s) (q28) (q35))))), Y 14 (str (Eng.sub (s) (q104) (q111))), Y 15 (i64 1), Y 76 (.bool (((Eng.sub (s) (q104) (q111)) == ([])) || (decide ((q111) < (len (s))))))] rfl ?_)
       refine CW.cond rfl (fun hb7 => ?_) (fun hb7 => ?_)
       ·try simp only [zb, hb1, hg27', hb2, hg41', hb3, hb4, and_true, true_and, false_or, or_false, not_true_eq_false, not_false_eq_true] at hb7
        refine CW.seq ?_
        refine CW.weaken [2, 5, 8, 10, 12, 14, 15] (L' := [Y 2 (.pointer (some ⟨b5, 0, none⟩)), Y 5 (.pointer (some ⟨b8, 0, none⟩)), Y 8 (.bool c13), Y 10 (str ((Eng.sub (s) (q12) (q19)) ++ (Eng.sub (s) (q28) (q35)))), Y 12 (i64 (-(len (Eng.sub (s) (q28) (q35))))), Y 14 (str (Eng.sub (s) (q104) (q111))), Y 15 (i64 1)]) ?_ rfl
        refine CW.regionF [.is (true) (.agg #[(i64 0), (i64 0), (str []), (str []), (.bool false), (i64 0)]), .is (true) (i64 q111), .any, .is (true) (i64 q111), .is (true) (i64 1)] hS115 tryz_mixed [2, 5, 8, 10, 12, 14, 15] rfl (by decide +kernel) (.cons ?_ (.cons ?_ (.cons ?_ (.cons ?_ (.cons ?_ (.nil)))))) ?_
        ·intro LL w117 M118 hle120 hS119 hK hD
         refine RL.u (.build (vs := []) (v := (.agg #[(i64 0), (i64 0), (str []), (str []), (.bool false), (i64 0)])) .nil (fun w => by kernel_rfl)) rfl ?_
         exact RL.nil (RA.next fun a hs => ⟨_, _, Mem.le.refl _, hS119, hs, _, _, rfl, rfl, rfl⟩)
        ·intro LL w121 M122 hle124 hS123 hK hD
         refine RL.u (.loadB1 (v := (i64 q111)) hS123 extEq (i := 0) rfl (.t (hK _ _ rfl)) Tryz.isAgg3 rfl) rfl ?_
         exact RL.nil (RA.next fun a hs => ⟨_, _, Mem.le.refl _, hS123, hs, _, _, rfl, rfl, rfl⟩)
        ·intro LL w125 M126 hle128 hS127 hK hD
         obtain ⟨g77, v77, hl77, rfl, rfl⟩ := hD 0 (by decide +kernel)
         obtain ⟨g77, v77, hl77, rfl, rfl⟩ := hD 0 (by decide +kernel)
         refine RL.st hS127 (i := 2) rfl (.t (hK _ _ rfl)) (.t hl77) Tryz.sizeOf31 rfl rfl rfl (Hs' := [.box b8 [(i64 q111)] 3, .box b2 [(str s)] 9, .box b5 [(i64 0), (i64 0), (str []), (str []), (.bool false), (i64 0)] 31]) rfl rfl (fun w129 hS130 => ?_)
         exact RL.nil (RA.next fun a hs => ⟨_, _, Mem.le.refl _, hS130, hs, rfl⟩)
        ·intro LL w131 M132 hle134 hS133 hK hD
         obtain ⟨g78, v78, hl78, rfl, rfl⟩ := hD 1 (by decide +kernel)
         obtain ⟨g78, v78, hl78, rfl, rfl⟩ := hD 1 (by decide +kernel)
         refine RL.u (.assign (.t hl78)) rfl ?_
         exact RL.nil (RA.next fun a hs => ⟨_, _, Mem.le.refl _, hS133, hs, _, _, rfl, rfl, rfl⟩)
        ·intro LL w135 M136 hle138 hS137 hK hD
         refine RL.u (.assign .c) rfl ?_
         exact RL.nil (RA.next fun a hs => ⟨_, _, Mem.le.refl _, hS137, hs, _, _, rfl, rfl, rfl⟩)
        intro w139 M140 LL hle142 hS141 hK hD
        obtain ⟨g3, v3, hl3, rfl, rfl⟩ := hD 3 (by decide)
        obtain ⟨g4, v4, hl4, rfl, rfl⟩ := hD 4 (by decide)
        refine slots_sub (E := [Y 2 (.pointer (some ⟨b5, 0, none⟩)), Y 3 (i64 q111), Y 4 (i64 1), Y 5 (.pointer (some ⟨b8, 0, none⟩)), Y 8 (.bool c13), Y 10 (str ((Eng.sub (s) (q12) (q19)) ++ (Eng.sub (s) (q28) (q35)))), Y 12 (i64 (-(len (Eng.sub (s) (q28) (q35))))), Y 14 (str (Eng.sub (s) (q104) (q111))), Y 15 (i64 1)]) (.cons (hK _ _ rfl) (.cons (hl3) (.cons (hl4) (.cons (hK _ _ rfl) (.cons (hK _ _ rfl) (.cons (hK _ _ rfl) (.cons (hK _ _ rfl) (.cons (hK _ _ rfl) (.cons (hK _ _ rfl) .nil))))))))) ?_
        replace hS141 : St w (fun _ _ => none) w139 M140 [.box b8 [(i64 q111)] 3, .box b2 [(str s)] 9, .box b5 [(i64 0), (i64 0), (str []), (str []), (.bool false), (i64 0)] 31] := hS141
        refine (CW.at [Y 2 (.pointer (some ⟨b5, 0, none⟩)), Y 3 (i64 q111), Y 4 (i64 1)] rfl ?_)
        refine CW.ret (retR3 (P := Tryz.prog) (fn := Tryz.f32) (R := fun e w' => e = .returned (.tuple #[(ndV ((read1 s).1)), (i64 ((read1 s).2.1)), (i64 ((read1 s).2.2))]) ∧ Ext w w') rfl (.boxN hS141 (i := 2) rfl rfl Tryz.isAgg31 Tryz.sizeOf31) (show RV _ _ _ (.tmp _) _ from rfl) (show RV _ _ _ (.tmp _) _ from rfl) ?_)
        refine ⟨?_, hS141.low⟩
        have hr : read1 s = (⟨0, 0, [], [], false, 0⟩, q111, 1) := by
         unfold read1 rest1 exp1 fin1
         simp only [← hq12, ← hc13, ← hq19, ← hq28, ← hc29, ← hq35, ← hq42, ← hc43, ← hq49, ← hc50, ← hq104, ← hc105, ← hq111, hb1, hg27', hb2, hg41', hb3, hb4, hb7, hb1n, if_true, if_false, reduceIte, or_self, or_true, true_or, and_self, and_true, true_and, false_and, and_false, or_false, false_or, Bool.false_eq_true, not_true_eq_false, not_false_eq_true, beq_self_eq_true]
         all_goals first | rfl | (exfalso; simp [hg27', hb2, hg41', hb3, hb4, hb7] at hb1; done) | (exfalso; simp [hb1, hb2, hg41', hb3, hb4, hb7] at hg27'; done) | (exfalso; simp [hb1, hg27', hg41', hb3, hb4, hb7] at hb2; done) | (exfalso; simp [hb1, hg27', hb2, hb3, hb4, hb7] at hg41'; done) | (exfalso; simp [hb1, hg27', hb2, hg41', hb4, hb7] at hb3; done) | (exfalso; simp [hb1, hg27', hb2, hg41', hb3, hb7] at hb4; done) | (exfalso; simp [hb1, hg27', hb2, hg41', hb3, hb4] at hb7; done)
        rw [hr]
       ·try simp only [zb, hb1, hg27', hb2, hg41', hb3, hb4, and_true, true_and, false_or, or_false, not_true_eq_false, not_false_eq_true] at hb7
        refine CW.skip (CW.at [Y 2 (.pointer (some ⟨b5, 0, none⟩)), Y 8 (.bool c13), Y 10 (str ((Eng.sub (s) (q12) (q19)) ++ (Eng.sub (s) (q28) (q35)))), Y 12 (i64 (-(len (Eng.sub (s) (q28) (q35))))), Y 14 (str (Eng.sub (s) (q104) (q111))), Y 15 (i64 1)] rfl ?_)
        refine CW.sr ?_
        refine RL.m rfl rfl ?_
        refine RL.callE hS115 .none Tryz.call15 (.cons (.t rfl) (.cons .c .nil)) (fun _ => (trimLeft_c (Eng.sub (s) (q104) (q111)) ([48]) _ (by decide) (cut_low (by decide)))) rfl (fun w143 hS144 => ?_)
        refine RL.a rfl rfl ?_
        refine RL.nil (CW.at [Y 2 (.pointer (some ⟨b5, 0, none⟩)), Y 8 (.bool c13), Y 10 (str ((Eng.sub (s) (q12) (q19)) ++ (Eng.sub (s) (q28) (q35)))), Y 12 (i64 (-(len (Eng.sub (s) (q28) (q35))))), Y 14 (str (dropZ (Eng.sub (s) (q104) (q111)))), Y 15 (i64 1)] rfl ?_)
        refine CW.seq ?_
        refine CW.sr ?_
        refine RL.m rfl rfl (RL.u (.lenS (.t rfl) Tryz.underlying9) rfl (RL.u (.gtr (.t rfl) .c) rfl ?_))
        refine RL.nil (CW.at [Y 2 (.pointer (some ⟨b5, 0, none⟩)), Y 8 (.bool c13), Y 10 (str ((Eng.sub (s) (q12) (q19)) ++ (Eng.sub (s) (q28) (q35)))), Y 12 (i64 (-(len (Eng.sub (s) (q28) (q35))))), Y 14 (str (dropZ (Eng.sub (s) (q104) (q111)))), Y 15 (i64 1), Y 83 (.bool (decide ((6) < (len (dropZ (Eng.sub (s) (q104) (q111)))))))] rfl ?_)
        refine CW.cond rfl (fun hb8 => ?_) (fun hb8 => ?_)
        ·try simp only [zb, hb1, hg27', hb2, hg41', hb3, hb4, hb7, and_true, true_and, false_or, or_false, not_true_eq_false, not_false_eq_true] at hb8
         refine CW.sr ?_
         refine RL.u (.build (vs := []) (v := (.agg #[(i64 0), (i64 0), (str []), (str []), (.bool false), (i64 0)])) .nil (fun w => by kernel_rfl)) rfl ?_
         refine RL.st hS144 (i := 2) rfl (.t rfl) (.t rfl) Tryz.sizeOf31 rfl rfl rfl (Hs' := [.box b8 [(i64 q111)] 3, .box b2 [(str s)] 9, .box b5 [(i64 0), (i64 0), (str []), (str []), (.bool false), (i64 0)] 31]) rfl rfl (fun w145 hS146 => ?_)
         refine RL.u (.assign .c) rfl (RL.u (.assign .c) rfl ?_)
         refine RL.nil (CW.at [Y 2 (.pointer (some ⟨b5, 0, none⟩)), Y 3 (i64 0), Y 4 (i64 2)] rfl ?_)
         refine CW.ret (retR3 (P := Tryz.prog) (fn := Tryz.f32) (R := fun e w' => e = .returned (.tuple #[(ndV ((read1 s).1)), (i64 ((read1 s).2.1)), (i64 ((read1 s).2.2))]) ∧ Ext w w') rfl (.boxN hS146 (i := 2) rfl rfl Tryz.isAgg31 Tryz.sizeOf31) (show RV _ _ _ (.tmp _) _ from rfl) (show RV _ _ _ (.tmp _) _ from rfl) ?_)
         refine ⟨?_, hS146.low⟩
         have hr : read1 s = (⟨0, 0, [], [], false, 0⟩, 0, 2) := by
          unfold read1 rest1 exp1 fin1
          simp only [← hq12, ← hc13, ← hq19, ← hq28, ← hc29, ← hq35, ← hq42, ← hc43, ← hq49, ← hc50, ← hq104, ← hc105, ← hq111, hb1, hg27', hb2, hg41', hb3, hb4, hb7, hb8, hb1n, if_true, if_false, reduceIte, or_self, or_true, true_or, and_self, and_true, true_and, false_and, and_false, or_false, false_or, Bool.false_eq_true, not_true_eq_false, not_false_eq_true, beq_self_eq_true]
          all_goals first | rfl | (exfalso; simp [hg27', hb2, hg41', hb3, hb4, hb7, hb8] at hb1; done) | (exfalso; simp [hb1, hb2, hg41', hb3, hb4, hb7, hb8] at hg27'; done) | (exfalso; simp [hb1, hg27', hg41', hb3, hb4, hb7, hb8] at hb2; done) | (exfalso; simp [hb1, hg27', hb2, hb3, hb4, hb7, hb8] at hg41'; done) | (exfalso; simp [hb1, hg27', hb2, hg41', hb4, hb7, hb8] at hb3; done) | (exfalso; simp [hb1, hg27', hb2, hg41', hb3, hb7, hb8] at hb4; done) | (exfalso; simp [hb1, hg27', hb2, hg41', hb3, hb4, hb8] at hb7; done) | (exfalso; simp [hb1, hg27', hb2, hg41', hb3, hb4, hb7] at hb8; done)
         rw [hr]
        ·try simp only [zb, hb1, hg27', hb2, hg41', hb3, hb4, hb7, and_true, true_and, false_or, or_false, not_true_eq_false, not_false_eq_true] at hb8
         refine CW.skip (CW.at [Y 2 (.pointer (some ⟨b5, 0, none⟩)), Y 8 (.bool c13), Y 10 (str ((Eng.sub (s) (q12) (q19)) ++ (Eng.sub (s) (q28) (q35)))), Y 12 (i64 (-(len (Eng.sub (s) (q28) (q35))))), Y 14 (str (dropZ (Eng.sub (s) (q104) (q111)))), Y 15 (i64 1)] rfl ?_)
         refine CW.sr ?_
         refine RL.m rfl rfl (RL.u (.sadd .c (.t rfl) (fun _ => by first | omega | (simp only [len_app, len_cons, len_nil] at *; omega))) rfl ?_)
         have hv147 := atoi_figs (l := dropZ (Eng.sub (s) (q104) (q111))) (by first | (refine figs_drop ?_; subst_vars; exact figs_run (by omega)) | (intro b hb; cases hb)) (by omega)
         refine RL.callE hS144 .none Tryz.call66 (.cons (.t rfl) .nil) (fun _ => (atoi_c ([48] ++ (dropZ (Eng.sub (s) (q104) (q111)))) (decVal (dropZ (Eng.sub (s) (q104) (q111)))) _ (by simp only [len_app, len_cons, len_nil] at *; omega) hv147.1)) rfl (fun w148 hS149 => ?_)
         refine RL.m rfl rfl (RL.u (.ex (.t rfl) rfl) rfl (RL.u (.ex (.t rfl) rfl) rfl (RL.a rfl rfl (RL.a rfl rfl ?_))))
         refine RL.nil (CW.at [Y 2 (.pointer (some ⟨b5, 0, none⟩)), Y 8 (.bool c13), Y 10 (str ((Eng.sub (s) (q12) (q19)) ++ (Eng.sub (s) (q28) (q35)))), Y 12 (i64 (-(len (Eng.sub (s) (q28) (q35))))), Y 15 (i64 1), Y 16 (i64 (decVal (dropZ (Eng.sub (s) (q104) (q111)))))] rfl ?_)
         refine CW.sr ?_
         refine RL.m rfl rfl (RL.m rfl rfl (RL.m rfl rfl (RL.m rfl rfl (RL.m rfl rfl (RL.u (.mul (.t rfl) (.t rfl) (fun _ => by first | omega | (simp only [len_app, len_cons, len_nil] at *; omega))) rfl ?_)))))
         refine RL.u (.add (.t rfl) (.t rfl) (fun _ => by first | omega | (simp only [len_app, len_cons, len_nil] at *; omega))) rfl ?_
         refine RL.callE hS149 .none Tryz.call67 (.cons (.t rfl) (.cons (.t rfl) (.cons (.t rfl) .nil))) (fun _ => (make_c (c13) ((Eng.sub (s) (q12) (q19)) ++ (Eng.sub (s) (q28) (q35))) ((-(len (Eng.sub (s) (q28) (q35)))) + ((1) * (decVal (dropZ (Eng.sub (s) (q104) (q111)))))) _ (hg.low hS149.low) (by first | omega | (simp only [len_app] at *; omega)))) rfl (fun w150 hS151 => ?_)
         refine RL.m rfl rfl (RL.u (.ex (.t rfl) rfl) rfl (RL.u (.ex (.t rfl) rfl) rfl ?_))
         refine RL.alloc hS151 Tryz.zeroValue31 rfl (fun w152 b153 hS154 => ?_)
         replace hS154 : St w (fun _ _ => none) w152 (fun _ _ => none) [.box b153 [(i64 0), (i64 0), (str []), (str []), (.bool false), (i64 0)] 31, .box b8 [(i64 q111)] 3, .box b2 [(str s)] 9, .box b5 [(i64 0), (i64 0), (str []), (str []), (.bool false), (i64 0)] 31] := hS154
         refine RL.st hS154 (i := 0) rfl (.t rfl) (.t rfl) Tryz.sizeOf31 rfl rfl rfl (Hs' := [.box b153 (ndC ((mk1 (c13) ((Eng.sub (s) (q12) (q19)) ++ (Eng.sub (s) (q28) (q35))) ((-(len (Eng.sub (s) (q28) (q35)))) + ((1) * (decVal (dropZ (Eng.sub (s) (q104) (q111))))))).1) []) 31, .box b8 [(i64 q111)] 3, .box b2 [(str s)] 9, .box b5 [(i64 0), (i64 0), (str []), (str []), (.bool false), (i64 0)] 31]) rfl rfl (fun w155 hS156 => ?_)
         refine RL.a rfl rfl ?_
         refine RL.nil (CW.at [Y 2 (.pointer (some ⟨b5, 0, none⟩)), Y 18 (.pointer (some ⟨b153, 0, none⟩)), Y 19 (i64 ((mk1 (c13) ((Eng.sub (s) (q12) (q19)) ++ (Eng.sub (s) (q28) (q35))) ((-(len (Eng.sub (s) (q28) (q35)))) + ((1) * (decVal (dropZ (Eng.sub (s) (q104) (q111))))))).2))] rfl ?_)
         refine CW.sr ?_
         refine RL.u (.loadBN (vs := (ndC ((mk1 (c13) ((Eng.sub (s) (q12) (q19)) ++ (Eng.sub (s) (q28) (q35))) ((-(len (Eng.sub (s) (q28) (q35)))) + ((1) * (decVal (dropZ (Eng.sub (s) (q104) (q111))))))).1) [])) hS156 extEq (i := 0) rfl (.t rfl) Tryz.isAgg31 Tryz.sizeOf31 rfl rfl) rfl (RL.m rfl rfl ?_)
         refine RL.st hS156 (i := 3) rfl (.t rfl) (.t rfl) Tryz.sizeOf31 rfl rfl rfl (Hs' := [.box b153 (ndC ((mk1 (c13) ((Eng.sub (s) (q12) (q19)) ++ (Eng.sub (s) (q28) (q35))) ((-(len (Eng.sub (s) (q28) (q35)))) + ((1) * (decVal (dropZ (Eng.sub (s) (q104) (q111))))))).1) []) 31, .box b8 [(i64 q111)] 3, .box b2 [(str s)] 9, .box b5 (ndC ((mk1 (c13) ((Eng.sub (s) (q12) (q19)) ++ (Eng.sub (s) (q28) (q35))) ((-(len (Eng.sub (s) (q28) (q35)))) + ((1) * (decVal (dropZ (Eng.sub (s) (q104) (q111))))))).1) []) 31]) rfl rfl (fun w157 hS158 => ?_)
         refine RL.u (.assign .c) rfl (RL.a rfl rfl ?_)
         refine RL.nil (CW.at [Y 2 (.pointer (some ⟨b5, 0, none⟩)), Y 3 (i64 0), Y 4 (i64 ((mk1 (c13) ((Eng.sub (s) (q12) (q19)) ++ (Eng.sub (s) (q28) (q35))) ((-(len (Eng.sub (s) (q28) (q35)))) + ((1) * (decVal (dropZ (Eng.sub (s) (q104) (q111))))))).2))] rfl ?_)
         refine CW.ret (retR3 (P := Tryz.prog) (fn := Tryz.f32) (R := fun e w' => e = .returned (.tuple #[(ndV ((read1 s).1)), (i64 ((read1 s).2.1)), (i64 ((read1 s).2.2))]) ∧ Ext w w') rfl (.boxN hS158 (i := 3) rfl rfl Tryz.isAgg31 Tryz.sizeOf31) (show RV _ _ _ (.tmp _) _ from rfl) (show RV _ _ _ (.tmp _) _ from rfl) ?_)
         refine ⟨?_, hS158.low⟩
         have hr : read1 s = ((mk1 (c13) ((Eng.sub (s) (q12) (q19)) ++ (Eng.sub (s) (q28) (q35))) ((-(len (Eng.sub (s) (q28) (q35)))) + ((1) * (decVal (dropZ (Eng.sub (s) (q104) (q111))))))).1, 0, (mk1 (c13) ((Eng.sub (s) (q12) (q19)) ++ (Eng.sub (s) (q28) (q35))) ((-(len (Eng.sub (s) (q28) (q35)))) + ((1) * (decVal (dropZ (Eng.sub (s) (q104) (q111))))))).2) := by
          unfold read1 rest1 exp1 fin1
          simp only [← hq12, ← hc13, ← hq19, ← hq28, ← hc29, ← hq35, ← hq42, ← hc43, ← hq49, ← hc50, ← hq104, ← hc105, ← hq111, hb1, hg27', hb2, hg41', hb3, hb4, hb7, hb8, hb1n, if_true, if_false, reduceIte, or_self, or_true, true_or, and_self, and_true, true_and, false_and, and_false, or_false, false_or, Bool.false_eq_true, not_true_eq_false, not_false_eq_true, beq_self_eq_true]
          all_goals first | rfl | (exfalso; simp [hg27', hb2, hg41', hb3, hb4, hb7, hb8] at hb1; done) | (exfalso; simp [hb1, hb2, hg41', hb3, hb4, hb7, hb8] at hg27'; done) | (exfalso; simp [hb1, hg27', hg41', hb3, hb4, hb7, hb8] at hb2; done) | (exfalso; simp [hb1, hg27', hb2, hb3, hb4, hb7, hb8] at hg41'; done) | (exfalso; simp [hb1, hg27', hb2, hg41', hb4, hb7, hb8] at hb3; done) | (exfalso; simp [hb1, hg27', hb2, hg41', hb3, hb7, hb8] at hb4; done) | (exfalso; simp [hb1, hg27', hb2, hg41', hb3, hb4, hb8] at hb7; done) | (exfalso; simp [hb1, hg27', hb2, hg41', hb3, hb4, hb7] at hb8; done)
         rw [hr]
     ·try simp only [zb, hb1, hg27', hb2, hg41', and_true, true_and, false_or, or_false, not_true_eq_false, not_false_eq_true] at hb3
      refine CW.skip (CW.at [Y 1 (.pointer (some ⟨b2, 0, none⟩)), Y 2 (.pointer (some ⟨b5, 0, none⟩)), Y 5 (.pointer (some ⟨b8, 0, none⟩)), Y 8 (.bool c13), Y 10 (str ((Eng.sub (s) (q12) (q19)) ++ (Eng.sub (s) (q28) (q35)))), Y 11 (.bool ((Eng.sub (s) (q28) (q35)) == ([]))), Y 12 (i64 (-(len (Eng.sub (s) (q28) (q35))))), Y 14 (str []), Y 15 (i64 1)] rfl ?_)
      refine CW.seq ?_
      refine CW.sr ?_
      refine RL.m rfl rfl (RL.m rfl rfl (RL.v (.neg rfl rfl) (.loadB1 (v := (i64 q42)) hS47 extEq (i := 0) rfl (.t rfl) Tryz.isAgg3 rfl) rfl (RL.v (.neg rfl rfl) (.loadB1 (v := (str s)) hS47 extEq (i := 1) rfl (.t rfl) Tryz.isAgg9 rfl) rfl (RL.v (.neg rfl rfl) (.lenS (.g rfl (fun _ => hg41)) Tryz.underlying9) rfl (RL.v (.neg rfl rfl) (.lss (.g rfl (fun _ => hg41)) (.g rfl (fun _ => hg41))) rfl ?_)))))
      refine RL.u (.or (.t rfl) (.g rfl (fun _ => hg41))) rfl ?_
      refine RL.nil (CW.at [Y 2 (.pointer (some ⟨b5, 0, none⟩)), Y 5 (.pointer (some ⟨b8, 0, none⟩)), Y 8 (.bool c13), Y 10 (str ((Eng.sub (s) (q12) (q19)) ++ (Eng.sub (s) (q28) (q35)))), Y 12 (i64 (-(len (Eng.sub (s) (q28) (q35))))), Y 14 (str []), Y 15 (i64 1), Y 76 (.bool (((Eng.sub (s) (q28) (q35)) == ([])) || (decide ((q42) < (len (s))))))] rfl ?_)
      refine CW.cond rfl (fun hb9 => ?_) (fun hb9 => ?_)
      ·try simp only [zb, hb1, hg27', hb2, hg41', hb3, and_true, true_and, false_or, or_false, not_true_eq_false, not_false_eq_true] at hb9
       refine CW.seq ?_
       refine CW.weaken [2, 5, 8, 10, 12, 14, 15] (L' := [Y 2 (.pointer (some ⟨b5, 0, none⟩)), Y 5 (.pointer (some ⟨b8, 0, none⟩)), Y 8 (.bool c13), Y 10 (str ((Eng.sub (s) (q12) (q19)) ++ (Eng.sub (s) (q28) (q35)))), Y 12 (i64 (-(len (Eng.sub (s) (q28) (q35))))), Y 14 (str []), Y 15 (i64 1)]) ?_ rfl
       refine CW.regionF [.is (true) (.agg #[(i64 0), (i64 0), (str []), (str []), (.bool false), (i64 0)]), .is (true) (i64 q42), .any, .is (true) (i64 q42), .is (true) (i64 1)] hS47 tryz_mixed [2, 5, 8, 10, 12, 14, 15] rfl (by decide +kernel) (.cons ?_ (.cons ?_ (.cons ?_ (.cons ?_ (.cons ?_ (.nil)))))) ?_
       ·intro LL w159 M160 hle162 hS161 hK hD
        refine RL.u (.build (vs := []) (v := (.agg #[(i64 0), (i64 0), (str []), (str []), (.bool false), (i64 0)])) .nil (fun w => by kernel_rfl)) rfl ?_
        exact RL.nil (RA.next fun a hs => ⟨_, _, Mem.le.refl _, hS161, hs, _, _, rfl, rfl, rfl⟩)
       ·intro LL w163 M164 hle166 hS165 hK hD
        refine RL.u (.loadB1 (v := (i64 q42)) hS165 extEq (i := 0) rfl (.t (hK _ _ rfl)) Tryz.isAgg3 rfl) rfl ?_
        exact RL.nil (RA.next fun a hs => ⟨_, _, Mem.le.refl _, hS165, hs, _, _, rfl, rfl, rfl⟩)
       ·intro LL w167 M168 hle170 hS169 hK hD
        obtain ⟨g77, v77, hl77, rfl, rfl⟩ := hD 0 (by decide +kernel)
        obtain ⟨g77, v77, hl77, rfl, rfl⟩ := hD 0 (by decide +kernel)
        refine RL.st hS169 (i := 2) rfl (.t (hK _ _ rfl)) (.t hl77) Tryz.sizeOf31 rfl rfl rfl (Hs' := [.box b8 [(i64 q42)] 3, .box b2 [(str s)] 9, .box b5 [(i64 0), (i64 0), (str []), (str []), (.bool false), (i64 0)] 31]) rfl rfl (fun w171 hS172 => ?_)
        exact RL.nil (RA.next fun a hs => ⟨_, _, Mem.le.refl _, hS172, hs, rfl⟩)
       ·intro LL w173 M174 hle176 hS175 hK hD
        obtain ⟨g78, v78, hl78, rfl, rfl⟩ := hD 1 (by decide +kernel)
        obtain ⟨g78, v78, hl78, rfl, rfl⟩ := hD 1 (by decide +kernel)
        refine RL.u (.assign (.t hl78)) rfl ?_
        exact RL.nil (RA.next fun a hs => ⟨_, _, Mem.le.refl _, hS175, hs, _, _, rfl, rfl, rfl⟩)
       ·intro LL w177 M178 hle180 hS179 hK hD
        refine RL.u (.assign .c) rfl ?_
        exact RL.nil (RA.next fun a hs => ⟨_, _, Mem.le.refl _, hS179, hs, _, _, rfl, rfl, rfl⟩)
       intro w181 M182 LL hle184 hS183 hK hD
       obtain ⟨g3, v3, hl3, rfl, rfl⟩ := hD 3 (by decide)
       obtain ⟨g4, v4, hl4, rfl, rfl⟩ := hD 4 (by decide)
       refine slots_sub (E := [Y 2 (.pointer (some ⟨b5, 0, none⟩)), Y 3 (i64 q42), Y 4 (i64 1), Y 5 (.pointer (some ⟨b8, 0, none⟩)), Y 8 (.bool c13), Y 10 (str ((Eng.sub (s) (q12) (q19)) ++ (Eng.sub (s) (q28) (q35)))), Y 12 (i64 (-(len (Eng.sub (s) (q28) (q35))))), Y 14 (str []), Y 15 (i64 1)]) (.cons (hK _ _ rfl) (.cons (hl3) (.cons (hl4) (.cons (hK _ _ rfl) (.cons (hK _ _ rfl) (.cons (hK _ _ rfl) (.cons (hK _ _ rfl) (.cons (hK _ _ rfl) (.cons (hK _ _ rfl) .nil))))))))) ?_
       replace hS183 : St w (fun _ _ => none) w181 M182 [.box b8 [(i64 q42)] 3, .box b2 [(str s)] 9, .box b5 [(i64 0), (i64 0), (str []), (str []), (.bool false), (i64 0)] 31] := hS183
       refine (CW.at [Y 2 (.pointer (some ⟨b5, 0, none⟩)), Y 3 (i64 q42), Y 4 (i64 1)] rfl ?_)
       refine CW.ret (retR3 (P := Tryz.prog) (fn := Tryz.f32) (R := fun e w' => e = .returned (.tuple #[(ndV ((read1 s).1)), (i64 ((read1 s).2.1)), (i64 ((read1 s).2.2))]) ∧ Ext w w') rfl (.boxN hS183 (i := 2) rfl rfl Tryz.isAgg31 Tryz.sizeOf31) (show RV _ _ _ (.tmp _) _ from rfl) (show RV _ _ _ (.tmp _) _ from rfl) ?_)
       refine ⟨?_, hS183.low⟩
       have hr : read1 s = (⟨0, 0, [], [], false, 0⟩, q42, 1) := by
        unfold read1 rest1 exp1 fin1
        simp only [← hq12, ← hc13, ← hq19, ← hq28, ← hc29, ← hq35, ← hq42, ← hc43, hb1, hg27', hb2, hg41', hb3, hb9, hb1n, if_true, if_false, reduceIte, or_self, or_true, true_or, and_self, and_true, true_and, false_and, and_false, or_false, false_or, Bool.false_eq_true, not_true_eq_false, not_false_eq_true, beq_self_eq_true]
        all_goals first | rfl | (exfalso; simp [hg27', hb2, hg41', hb3, hb9] at hb1; done) | (exfalso; simp [hb1, hb2, hg41', hb3, hb9] at hg27'; done) | (exfalso; simp [hb1, hg27', hg41', hb3, hb9] at hb2; done) | (exfalso; simp [hb1, hg27', hb2, hb3, hb9] at hg41'; done) | (exfalso; simp [hb1, hg27', hb2, hg41', hb9] at hb3; done) | (exfalso; simp [hb1, hg27', hb2, hg41', hb3] at hb9; done)
       rw [hr]
      ·try simp only [zb, hb1, hg27', hb2, hg41', hb3, and_true, true_and, false_or, or_false, not_true_eq_false, not_false_eq_true] at hb9
       refine CW.skip (CW.at [Y 2 (.pointer (some ⟨b5, 0, none⟩)), Y 8 (.bool c13), Y 10 (str ((Eng.sub (s) (q12) (q19)) ++ (Eng.sub (s) (q28) (q35)))), Y 12 (i64 (-(len (Eng.sub (s) (q28) (q35))))), Y 14 (str []), Y 15 (i64 1)] rfl ?_)
       refine CW.sr ?_
       refine RL.m rfl rfl ?_
       refine RL.callE hS47 .none Tryz.call15 (.cons (.t rfl) (.cons .c .nil)) (fun _ => (trimLeft_c ([]) ([48]) _ (by decide) (cut_low (by decide)))) rfl (fun w185 hS186 => ?_)
       refine RL.a rfl rfl ?_
       refine RL.nil (CW.at [Y 2 (.pointer (some ⟨b5, 0, none⟩)), Y 8 (.bool c13), Y 10 (str ((Eng.sub (s) (q12) (q19)) ++ (Eng.sub (s) (q28) (q35)))), Y 12 (i64 (-(len (Eng.sub (s) (q28) (q35))))), Y 14 (str (dropZ ([]))), Y 15 (i64 1)] rfl ?_)
       refine CW.seq ?_
       refine CW.sr ?_
       refine RL.m rfl rfl (RL.u (.lenS (.t rfl) Tryz.underlying9) rfl (RL.u (.gtr (.t rfl) .c) rfl ?_))
       refine RL.nil (CW.at [Y 2 (.pointer (some ⟨b5, 0, none⟩)), Y 8 (.bool c13), Y 10 (str ((Eng.sub (s) (q12) (q19)) ++ (Eng.sub (s) (q28) (q35)))), Y 12 (i64 (-(len (Eng.sub (s) (q28) (q35))))), Y 14 (str (dropZ ([]))), Y 15 (i64 1), Y 83 (.bool (decide ((6) < (len (dropZ ([]))))))] rfl ?_)
       refine CW.cond rfl (fun hb10 => ?_) (fun hb10 => ?_)
       ·try simp only [zb, hb1, hg27', hb2, hg41', hb3, hb9, and_true, true_and, false_or, or_false, not_true_eq_false, not_false_eq_true] at hb10
        refine CW.sr ?_
        refine RL.u (.build (vs := []) (v := (.agg #[(i64 0), (i64 0), (str []), (str []), (.bool false), (i64 0)])) .nil (fun w => by kernel_rfl)) rfl ?_
        refine RL.st hS186 (i := 2) rfl (.t rfl) (.t rfl) Tryz.sizeOf31 rfl rfl rfl (Hs' := [.box b8 [(i64 q42)] 3, .box b2 [(str s)] 9, .box b5 [(i64 0), (i64 0), (str []), (str []), (.bool false), (i64 0)] 31]) rfl rfl (fun w187 hS188 => ?_)
        refine RL.u (.assign .c) rfl (RL.u (.assign .c) rfl ?_)
        refine RL.nil (CW.at [Y 2 (.pointer (some ⟨b5, 0, none⟩)), Y 3 (i64 0), Y 4 (i64 2)] rfl ?_)
        refine CW.ret (retR3 (P := Tryz.prog) (fn := Tryz.f32) (R := fun e w' => e = .returned (.tuple #[(ndV ((read1 s).1)), (i64 ((read1 s).2.1)), (i64 ((read1 s).2.2))]) ∧ Ext w w') rfl (.boxN hS188 (i := 2) rfl rfl Tryz.isAgg31 Tryz.sizeOf31) (show RV _ _ _ (.tmp _) _ from rfl) (show RV _ _ _ (.tmp _) _ from rfl) ?_)
        refine ⟨?_, hS188.low⟩
        have hr : read1 s = (⟨0, 0, [], [], false, 0⟩, 0, 2) := by
         unfold read1 rest1 exp1 fin1
         simp only [← hq12, ← hc13, ← hq19, ← hq28, ← hc29, ← hq35, ← hq42, ← hc43, hb1, hg27', hb2, hg41', hb3, hb9, hb10, hb1n, if_true, if_false, reduceIte, or_self, or_true, true_or, and_self, and_true, true_and, false_and, and_false, or_false, false_or, Bool.false_eq_true, not_true_eq_false, not_false_eq_true, beq_self_eq_true]
         all_goals first | rfl | (exfalso; simp [hg27', hb2, hg41', hb3, hb9, hb10] at hb1; done) | (exfalso; simp [hb1, hb2, hg41', hb3, hb9, hb10] at hg27'; done) | (exfalso; simp [hb1, hg27', hg41', hb3, hb9, hb10] at hb2; done) | (exfalso; simp [hb1, hg27', hb2, hb3, hb9, hb10] at hg41'; done) | (exfalso; simp [hb1, hg27', hb2, hg41', hb9, hb10] at hb3; done) | (exfalso; simp [hb1, hg27', hb2, hg41', hb3, hb10] at hb9; done) | (exfalso; simp [hb1, hg27', hb2, hg41', hb3, hb9] at hb10; done)
        rw [hr]
       ·try simp only [zb, hb1, hg27', hb2, hg41', hb3, hb9, and_true, true_and, false_or, or_false, not_true_eq_false, not_false_eq_true] at hb10
        refine CW.skip (CW.at [Y 2 (.pointer (some ⟨b5, 0, none⟩)), Y 8 (.bool c13), Y 10 (str ((Eng.sub (s) (q12) (q19)) ++ (Eng.sub (s) (q28) (q35)))), Y 12 (i64 (-(len (Eng.sub (s) (q28) (q35))))), Y 14 (str (dropZ ([]))), Y 15 (i64 1)] rfl ?_)
        refine CW.sr ?_
        refine RL.m rfl rfl (RL.u (.sadd .c (.t rfl) (fun _ => by first | omega | (simp only [len_app, len_cons, len_nil] at *; omega))) rfl ?_)
        have hv189 := atoi_figs (l := dropZ ([])) (by first | (refine figs_drop ?_; subst_vars; exact figs_run (by omega)) | (intro b hb; cases hb)) (by omega)
        refine RL.callE hS186 .none Tryz.call66 (.cons (.t rfl) .nil) (fun _ => (atoi_c ([48] ++ (dropZ ([]))) (decVal (dropZ ([]))) _ (by simp only [len_app, len_cons, len_nil] at *; omega) hv189.1)) rfl (fun w190 hS191 => ?_)
        refine RL.m rfl rfl (RL.u (.ex (.t rfl) rfl) rfl (RL.u (.ex (.t rfl) rfl) rfl (RL.a rfl rfl (RL.a rfl rfl ?_))))
        refine RL.nil (CW.at [Y 2 (.pointer (some ⟨b5, 0, none⟩)), Y 8 (.bool c13), Y 10 (str ((Eng.sub (s) (q12) (q19)) ++ (Eng.sub (s) (q28) (q35)))), Y 12 (i64 (-(len (Eng.sub (s) (q28) (q35))))), Y 15 (i64 1), Y 16 (i64 (decVal (dropZ ([]))))] rfl ?_)
        refine CW.sr ?_
        refine RL.m rfl rfl (RL.m rfl rfl (RL.m rfl rfl (RL.m rfl rfl (RL.m rfl rfl (RL.u (.mul (.t rfl) (.t rfl) (fun _ => by first | omega | (simp only [len_app, len_cons, len_nil] at *; omega))) rfl ?_)))))
        refine RL.u (.add (.t rfl) (.t rfl) (fun _ => by first | omega | (simp only [len_app, len_cons, len_nil] at *; omega))) rfl ?_
        refine RL.callE hS191 .none Tryz.call67 (.cons (.t rfl) (.cons (.t rfl) (.cons (.t rfl) .nil))) (fun _ => (make_c (c13) ((Eng.sub (s) (q12) (q19)) ++ (Eng.sub (s) (q28) (q35))) ((-(len (Eng.sub (s) (q28) (q35)))) + ((1) * (decVal (dropZ ([]))))) _ (hg.low hS191.low) (by first | omega | (simp only [len_app] at *; omega)))) rfl (fun w192 hS193 => ?_)
        refine RL.m rfl rfl (RL.u (.ex (.t rfl) rfl) rfl (RL.u (.ex (.t rfl) rfl) rfl ?_))
        refine RL.alloc hS193 Tryz.zeroValue31 rfl (fun w194 b195 hS196 => ?_)
        replace hS196 : St w (fun _ _ => none) w194 (fun _ _ => none) [.box b195 [(i64 0), (i64 0), (str []), (str []), (.bool false), (i64 0)] 31, .box b8 [(i64 q42)] 3, .box b2 [(str s)] 9, .box b5 [(i64 0), (i64 0), (str []), (str []), (.bool false), (i64 0)] 31] := hS196
        refine RL.st hS196 (i := 0) rfl (.t rfl) (.t rfl) Tryz.sizeOf31 rfl rfl rfl (Hs' := [.box b195 (ndC ((mk1 (c13) ((Eng.sub (s) (q12) (q19)) ++ (Eng.sub (s) (q28) (q35))) ((-(len (Eng.sub (s) (q28) (q35)))) + ((1) * (decVal (dropZ ([])))))).1) []) 31, .box b8 [(i64 q42)] 3, .box b2 [(str s)] 9, .box b5 [(i64 0), (i64 0), (str []), (str []), (.bool false), (i64 0)] 31]) rfl rfl (fun w197 hS198 => ?_)
        refine RL.a rfl rfl ?_
        refine RL.nil (CW.at [Y 2 (.pointer (some ⟨b5, 0, none⟩)), Y 18 (.pointer (some ⟨b195, 0, none⟩)), Y 19 (i64 ((mk1 (c13) ((Eng.sub (s) (q12) (q19)) ++ (Eng.sub (s) (q28) (q35))) ((-(len (Eng.sub (s) (q28) (q35)))) + ((1) * (decVal (dropZ ([])))))).2))] rfl ?_)
        refine CW.sr ?_
        refine RL.u (.loadBN (vs := (ndC ((mk1 (c13) ((Eng.sub (s) (q12) (q19)) ++ (Eng.sub (s) (q28) (q35))) ((-(len (Eng.sub (s) (q28) (q35)))) + ((1) * (decVal (dropZ ([])))))).1) [])) hS198 extEq (i := 0) rfl (.t rfl) Tryz.isAgg31 Tryz.sizeOf31 rfl rfl) rfl (RL.m rfl rfl ?_)
        refine RL.st hS198 (i := 3) rfl (.t rfl) (.t rfl) Tryz.sizeOf31 rfl rfl rfl (Hs' := [.box b195 (ndC ((mk1 (c13) ((Eng.sub (s) (q12) (q19)) ++ (Eng.sub (s) (q28) (q35))) ((-(len (Eng.sub (s) (q28) (q35)))) + ((1) * (decVal (dropZ ([])))))).1) []) 31, .box b8 [(i64 q42)] 3, .box b2 [(str s)] 9, .box b5 (ndC ((mk1 (c13) ((Eng.sub (s) (q12) (q19)) ++ (Eng.sub (s) (q28) (q35))) ((-(len (Eng.sub (s) (q28) (q35)))) + ((1) * (decVal (dropZ ([])))))).1) []) 31]) rfl rfl (fun w199 hS200 => ?_)
        refine RL.u (.assign .c) rfl (RL.a rfl rfl ?_)
        refine RL.nil (CW.at [Y 2 (.pointer (some ⟨b5, 0, none⟩)), Y 3 (i64 0), Y 4 (i64 ((mk1 (c13) ((Eng.sub (s) (q12) (q19)) ++ (Eng.sub (s) (q28) (q35))) ((-(len (Eng.sub (s) (q28) (q35)))) + ((1) * (decVal (dropZ ([])))))).2))] rfl ?_)
        refine CW.ret (retR3 (P := Tryz.prog) (fn := Tryz.f32) (R := fun e w' => e = .returned (.tuple #[(ndV ((read1 s).1)), (i64 ((read1 s).2.1)), (i64 ((read1 s).2.2))]) ∧ Ext w w') rfl (.boxN hS200 (i := 3) rfl rfl Tryz.isAgg31 Tryz.sizeOf31) (show RV _ _ _ (.tmp _) _ from rfl) (show RV _ _ _ (.tmp _) _ from rfl) ?_)
        refine ⟨?_, hS200.low⟩
        have hr : read1 s = ((mk1 (c13) ((Eng.sub (s) (q12) (q19)) ++ (Eng.sub (s) (q28) (q35))) ((-(len (Eng.sub (s) (q28) (q35)))) + ((1) * (decVal (dropZ ([])))))).1, 0, (mk1 (c13) ((Eng.sub (s) (q12) (q19)) ++ (Eng.sub (s) (q28) (q35))) ((-(len (Eng.sub (s) (q28) (q35)))) + ((1) * (decVal (dropZ ([])))))).2) := by
         unfold read1 rest1 exp1 fin1
         simp only [← hq12, ← hc13, ← hq19, ← hq28, ← hc29, ← hq35, ← hq42, ← hc43, hb1, hg27', hb2, hg41', hb3, hb9, hb10, hb1n, if_true, if_false, reduceIte, or_self, or_true, true_or, and_self, and_true, true_and, false_and, and_false, or_false, false_or, Bool.false_eq_true, not_true_eq_false, not_false_eq_true, beq_self_eq_true]
         all_goals first | rfl | (exfalso; simp [hg27', hb2, hg41', hb3, hb9, hb10] at hb1; done) | (exfalso; simp [hb1, hb2, hg41', hb3, hb9, hb10] at hg27'; done) | (exfalso; simp [hb1, hg27', hg41', hb3, hb9, hb10] at hb2; done) | (exfalso; simp [hb1, hg27', hb2, hb3, hb9, hb10] at hg41'; done) | (exfalso; simp [hb1, hg27', hb2, hg41', hb9, hb10] at hb3; done) | (exfalso; simp [hb1, hg27', hb2, hg41', hb3, hb10] at hb9; done) | (exfalso; simp [hb1, hg27', hb2, hg41', hb3, hb9] at hb10; done)
        rw [hr]
    ·have hg41' := hg41
     try simp only [zb] at hg41'
     refine RL.u (.and (.t rfl) (.g rfl (fun h => by simp_all))) rfl ?_
     refine RL.nil (CW.at [Y 1 (.pointer (some ⟨b2, 0, none⟩)), Y 2 (.pointer (some ⟨b5, 0, none⟩)), Y 5 (.pointer (some ⟨b8, 0, none⟩)), Y 6 (.func (.func 62) #[] #[(.pointer (some ⟨b8, 0, none⟩)), (.pointer (some ⟨b2, 0, none⟩))]), Y 7 (.func (.func 64) #[] #[(.pointer (some ⟨b8, 0, none⟩)), (.pointer (some ⟨b2, 0, none⟩))]), Y 8 (.bool c13), Y 10 (str ((Eng.sub (s) (q12) (q19)) ++ (Eng.sub (s) (q28) (q35)))), Y 11 (.bool ((Eng.sub (s) (q28) (q35)) == ([]))), Y 12 (i64 (-(len (Eng.sub (s) (q28) (q35))))), Y 14 (str []), Y 15 (i64 1), Y 61 (.bool ((!((Eng.sub (s) (q28) (q35)) == ([]))) && (false)))] rfl ?_)
     refine CW.cond rfl (fun h => by simp at h) (fun hb11 => ?_)
     try simp only [zb, Bool.and_false] at hb11
     refine CW.skip (CW.at [Y 1 (.pointer (some ⟨b2, 0, none⟩)), Y 2 (.pointer (some ⟨b5, 0, none⟩)), Y 5 (.pointer (some ⟨b8, 0, none⟩)), Y 8 (.bool c13), Y 10 (str ((Eng.sub (s) (q12) (q19)) ++ (Eng.sub (s) (q28) (q35)))), Y 11 (.bool ((Eng.sub (s) (q28) (q35)) == ([]))), Y 12 (i64 (-(len (Eng.sub (s) (q28) (q35))))), Y 14 (str []), Y 15 (i64 1)] rfl ?_)
     refine CW.seq ?_
     refine CW.sr ?_
     refine RL.m rfl rfl (RL.m rfl rfl (RL.v (.neg rfl rfl) (.loadB1 (v := (i64 q35)) hS39 extEq (i := 0) rfl (.t rfl) Tryz.isAgg3 rfl) rfl (RL.v (.neg rfl rfl) (.loadB1 (v := (str s)) hS39 extEq (i := 1) rfl (.t rfl) Tryz.isAgg9 rfl) rfl (RL.v (.neg rfl rfl) (.lenS (.g rfl (fun h => h)) Tryz.underlying9) rfl (RL.v (.neg rfl rfl) (.lss (.g rfl (fun h => h)) (.g rfl (fun h => h))) rfl ?_)))))
     refine RL.u (.or (.t rfl) (.g rfl (fun h => h))) rfl ?_
     refine RL.nil (CW.at [Y 2 (.pointer (some ⟨b5, 0, none⟩)), Y 5 (.pointer (some ⟨b8, 0, none⟩)), Y 8 (.bool c13), Y 10 (str ((Eng.sub (s) (q12) (q19)) ++ (Eng.sub (s) (q28) (q35)))), Y 12 (i64 (-(len (Eng.sub (s) (q28) (q35))))), Y 14 (str []), Y 15 (i64 1), Y 76 (.bool (((Eng.sub (s) (q28) (q35)) == ([])) || (decide ((q35) < (len (s))))))] rfl ?_)
     refine CW.cond rfl (fun hb12 => ?_) (fun hb12 => ?_)
     ·try simp only [zb, hb1, hg27', hb2, hg41', and_true, true_and, false_or, or_false, not_true_eq_false, not_false_eq_true] at hb12
      refine CW.seq ?_
      refine CW.weaken [2, 5, 8, 10, 12, 14, 15] (L' := [Y 2 (.pointer (some ⟨b5, 0, none⟩)), Y 5 (.pointer (some ⟨b8, 0, none⟩)), Y 8 (.bool c13), Y 10 (str ((Eng.sub (s) (q12) (q19)) ++ (Eng.sub (s) (q28) (q35)))), Y 12 (i64 (-(len (Eng.sub (s) (q28) (q35))))), Y 14 (str []), Y 15 (i64 1)]) ?_ rfl
      refine CW.regionF [.is (true) (.agg #[(i64 0), (i64 0), (str []), (str []), (.bool false), (i64 0)]), .is (true) (i64 q35), .any, .is (true) (i64 q35), .is (true) (i64 1)] hS39 tryz_mixed [2, 5, 8, 10, 12, 14, 15] rfl (by decide +kernel) (.cons ?_ (.cons ?_ (.cons ?_ (.cons ?_ (.cons ?_ (.nil)))))) ?_
      ·intro LL w201 M202 hle204 hS203 hK hD
       refine RL.u (.build (vs := []) (v := (.agg #[(i64 0), (i64 0), (str []), (str []), (.bool false), (i64 0)])) .nil (fun w => by kernel_rfl)) rfl ?_
       exact RL.nil (RA.next fun a hs => ⟨_, _, Mem.le.refl _, hS203, hs, _, _, rfl, rfl, rfl⟩)
      ·intro LL w205 M206 hle208 hS207 hK hD
       refine RL.u (.loadB1 (v := (i64 q35)) hS207 extEq (i := 0) rfl (.t (hK _ _ rfl)) Tryz.isAgg3 rfl) rfl ?_
       exact RL.nil (RA.next fun a hs => ⟨_, _, Mem.le.refl _, hS207, hs, _, _, rfl, rfl, rfl⟩)
      ·intro LL w209 M210 hle212 hS211 hK hD
       obtain ⟨g77, v77, hl77, rfl, rfl⟩ := hD 0 (by decide +kernel)
       obtain ⟨g77, v77, hl77, rfl, rfl⟩ := hD 0 (by decide +kernel)
       refine RL.st hS211 (i := 2) rfl (.t (hK _ _ rfl)) (.t hl77) Tryz.sizeOf31 rfl rfl rfl (Hs' := [.box b8 [(i64 q35)] 3, .box b2 [(str s)] 9, .box b5 [(i64 0), (i64 0), (str []), (str []), (.bool false), (i64 0)] 31]) rfl rfl (fun w213 hS214 => ?_)
       exact RL.nil (RA.next fun a hs => ⟨_, _, Mem.le.refl _, hS214, hs, rfl⟩)
      ·intro LL w215 M216 hle218 hS217 hK hD
       obtain ⟨g78, v78, hl78, rfl, rfl⟩ := hD 1 (by decide +kernel)
       obtain ⟨g78, v78, hl78, rfl, rfl⟩ := hD 1 (by decide +kernel)
       refine RL.u (.assign (.t hl78)) rfl ?_
       exact RL.nil (RA.next fun a hs => ⟨_, _, Mem.le.refl _, hS217, hs, _, _, rfl, rfl, rfl⟩)
      ·intro LL w219 M220 hle222 hS221 hK hD
       refine RL.u (.assign .c) rfl ?_
       exact RL.nil (RA.next fun a hs => ⟨_, _, Mem.le.refl _, hS221, hs, _, _, rfl, rfl, rfl⟩)
      intro w223 M224 LL hle226 hS225 hK hD
      obtain ⟨g3, v3, hl3, rfl, rfl⟩ := hD 3 (by decide)
      obtain ⟨g4, v4, hl4, rfl, rfl⟩ := hD 4 (by decide)
      refine slots_sub (E := [Y 2 (.pointer (some ⟨b5, 0, none⟩)), Y 3 (i64 q35), Y 4 (i64 1), Y 5 (.pointer (some ⟨b8, 0, none⟩)), Y 8 (.bool c13), Y 10 (str ((Eng.sub (s) (q12) (q19)) ++ (Eng.sub (s) (q28) (q35)))), Y 12 (i64 (-(len (Eng.sub (s) (q28) (q35))))), Y 14 (str []), Y 15 (i64 1)]) (.cons (hK _ _ rfl) (.cons (hl3) (.cons (hl4) (.cons (hK _ _ rfl) (.cons (hK _ _ rfl) (.cons (hK _ _ rfl) (.cons (hK _ _ rfl) (.cons (hK _ _ rfl) (.cons (hK _ _ rfl) .nil))))))))) ?_
      replace hS225 : St w (fun _ _ => none) w223 M224 [.box b8 [(i64 q35)] 3, .box b2 [(str s)] 9, .box b5 [(i64 0), (i64 0), (str []), (str []), (.bool false), (i64 0)] 31] := hS225
      refine (CW.at [Y 2 (.pointer (some ⟨b5, 0, none⟩)), Y 3 (i64 q35), Y 4 (i64 1)] rfl ?_)
      refine CW.ret (retR3 (P := Tryz.prog) (fn := Tryz.f32) (R := fun e w' => e = .returned (.tuple #[(ndV ((read1 s).1)), (i64 ((read1 s).2.1)), (i64 ((read1 s).2.2))]) ∧ Ext w w') rfl (.boxN hS225 (i := 2) rfl rfl Tryz.isAgg31 Tryz.sizeOf31) (show RV _ _ _ (.tmp _) _ from rfl) (show RV _ _ _ (.tmp _) _ from rfl) ?_)
      refine ⟨?_, hS225.low⟩
      have hr : read1 s = (⟨0, 0, [], [], false, 0⟩, q35, 1) := by
       unfold read1 rest1 exp1 fin1
       simp only [← hq12, ← hc13, ← hq19, ← hq28, ← hc29, ← hq35, hb1, hg27', hb2, hg41', hb12, hb1n, if_true, if_false, reduceIte, or_self, or_true, true_or, and_self, and_true, true_and, false_and, and_false, or_false, false_or, Bool.false_eq_true, not_true_eq_false, not_false_eq_true, beq_self_eq_true]
       all_goals first | rfl | (exfalso; simp [hg27', hb2, hg41', hb12] at hb1; done) | (exfalso; simp [hb1, hb2, hg41', hb12] at hg27'; done) | (exfalso; simp [hb1, hg27', hg41', hb12] at hb2; done) | (exfalso; simp [hb1, hg27', hb2, hb12] at hg41'; done) | (exfalso; simp [hb1, hg27', hb2, hg41'] at hb12; done)
      rw [hr]
     ·try simp only [zb, hb1, hg27', hb2, hg41', and_true, true_and, false_or, or_false, not_true_eq_false, not_false_eq_true] at hb12
      refine CW.skip (CW.at [Y 2 (.pointer (some ⟨b5, 0, none⟩)), Y 8 (.bool c13), Y 10 (str ((Eng.sub (s) (q12) (q19)) ++ (Eng.sub (s) (q28) (q35)))), Y 12 (i64 (-(len (Eng.sub (s) (q28) (q35))))), Y 14 (str []), Y 15 (i64 1)] rfl ?_)
      refine CW.sr ?_
      refine RL.m rfl rfl ?_
      refine RL.callE hS39 .none Tryz.call15 (.cons (.t rfl) (.cons .c .nil)) (fun _ => (trimLeft_c ([]) ([48]) _ (by decide) (cut_low (by decide)))) rfl (fun w227 hS228 => ?_)
      refine RL.a rfl rfl ?_
      refine RL.nil (CW.at [Y 2 (.pointer (some ⟨b5, 0, none⟩)), Y 8 (.bool c13), Y 10 (str ((Eng.sub (s) (q12) (q19)) ++ (Eng.sub (s) (q28) (q35)))), Y 12 (i64 (-(len (Eng.sub (s) (q28) (q35))))), Y 14 (str (dropZ ([]))), Y 15 (i64 1)] rfl ?_)
      refine CW.seq ?_
      refine CW.sr ?_
      refine RL.m rfl rfl (RL.u (.lenS (.t rfl) Tryz.underlying9) rfl (RL.u (.gtr (.t rfl) .c) rfl ?_))
      refine RL.nil (CW.at [Y 2 (.pointer (some ⟨b5, 0, none⟩)), Y 8 (.bool c13), Y 10 (str ((Eng.sub (s) (q12) (q19)) ++ (Eng.sub (s) (q28) (q35)))), Y 12 (i64 (-(len (Eng.sub (s) (q28) (q35))))), Y 14 (str (dropZ ([]))), Y 15 (i64 1), Y 83 (.bool (decide ((6) < (len (dropZ ([]))))))] rfl ?_)
      refine CW.cond rfl (fun hb13 => ?_) (fun hb13 => ?_)
      ·try simp only [zb, hb1, hg27', hb2, hg41', hb12, and_true, true_and, false_or, or_false, not_true_eq_false, not_false_eq_true] at hb13
       refine CW.sr ?_
       refine RL.u (.build (vs := []) (v := (.agg #[(i64 0), (i64 0), (str []), (str []), (.bool false), (i64 0)])) .nil (fun w => by kernel_rfl)) rfl ?_
       refine RL.st hS228 (i := 2) rfl (.t rfl) (.t rfl) Tryz.sizeOf31 rfl rfl rfl (Hs' := [.box b8 [(i64 q35)] 3, .box b2 [(str s)] 9, .box b5 [(i64 0), (i64 0), (str []), (str []), (.bool false), (i64 0)] 31]) rfl rfl (fun w229 hS230 => ?_)
       refine RL.u (.assign .c) rfl (RL.u (.assign .c) rfl ?_)
       refine RL.nil (CW.at [Y 2 (.pointer (some ⟨b5, 0, none⟩)), Y 3 (i64 0), Y 4 (i64 2)] rfl ?_)
       refine CW.ret (retR3 (P := Tryz.prog) (fn := Tryz.f32) (R := fun e w' => e = .returned (.tuple #[(ndV ((read1 s).1)), (i64 ((read1 s).2.1)), (i64 ((read1 s).2.2))]) ∧ Ext w w') rfl (.boxN hS230 (i := 2) rfl rfl Tryz.isAgg31 Tryz.sizeOf31) (show RV _ _ _ (.tmp _) _ from rfl) (show RV _ _ _ (.tmp _) _ from rfl) ?_)
       refine ⟨?_, hS230.low⟩
       have hr : read1 s = (⟨0, 0, [], [], false, 0⟩, 0, 2) := by
        unfold read1 rest1 exp1 fin1
        simp only [← hq12, ← hc13, ← hq19, ← hq28, ← hc29, ← hq35, hb1, hg27', hb2, hg41', hb12, hb13, hb1n, if_true, if_false, reduceIte, or_self, or_true, true_or, and_self, and_true, true_and, false_and, and_false, or_false, false_or, Bool.false_eq_true, not_true_eq_false, not_false_eq_true, beq_self_eq_true]
        all_goals first | rfl | (exfalso; simp [hg27', hb2, hg41', hb12, hb13] at hb1; done) | (exfalso; simp [hb1, hb2, hg41', hb12, hb13] at hg27'; done) | (exfalso; simp [hb1, hg27', hg41', hb12, hb13] at hb2; done) | (exfalso; simp [hb1, hg27', hb2, hb12, hb13] at hg41'; done) | (exfalso; simp [hb1, hg27', hb2, hg41', hb13] at hb12; done) | (exfalso; simp [hb1, hg27', hb2, hg41', hb12] at hb13; done)
       rw [hr]
      ·try simp only [zb, hb1, hg27', hb2, hg41', hb12, and_true, true_and, false_or, or_false, not_true_eq_false, not_false_eq_true] at hb13
       refine CW.skip (CW.at [Y 2 (.pointer (some ⟨b5, 0, none⟩)), Y 8 (.bool c13), Y 10 (str ((Eng.sub (s) (q12) (q19)) ++ (Eng.sub (s) (q28) (q35)))), Y 12 (i64 (-(len (Eng.sub (s) (q28) (q35))))), Y 14 (str (dropZ ([]))), Y 15 (i64 1)] rfl ?_)
       refine CW.sr ?_
       refine RL.m rfl rfl (RL.u (.sadd .c (.t rfl) (fun _ => by first | omega | (simp only [len_app, len_cons, len_nil] at *; omega))) rfl ?_)
       have hv231 := atoi_figs (l := dropZ ([])) (by first | (refine figs_drop ?_; subst_vars; exact figs_run (by omega)) | (intro b hb; cases hb)) (by omega)
       refine RL.callE hS228 .none Tryz.call66 (.cons (.t rfl) .nil) (fun _ => (atoi_c ([48] ++ (dropZ ([]))) (decVal (dropZ ([]))) _ (by simp only [len_app, len_cons, len_nil] at *; omega) hv231.1)) rfl (fun w232 hS233 => ?_)
       refine RL.m rfl rfl (RL.u (.ex (.t rfl) rfl) rfl (RL.u (.ex (.t rfl) rfl) rfl (RL.a rfl rfl (RL.a rfl rfl ?_))))
       refine RL.nil (CW.at [Y 2 (.pointer (some ⟨b5, 0, none⟩)), Y 8 (.bool c13), Y 10 (str ((Eng.sub (s) (q12) (q19)) ++ (Eng.sub (s) (q28) (q35)))), Y 12 (i64 (-(len (Eng.sub (s) (q28) (q35))))), Y 15 (i64 1), Y 16 (i64 (decVal (dropZ ([]))))] rfl ?_)
       refine CW.sr ?_
       refine RL.m rfl rfl (RL.m rfl rfl (RL.m rfl rfl (RL.m rfl rfl (RL.m rfl rfl (RL.u (.mul (.t rfl) (.t rfl) (fun _ => by first | omega | (simp only [len_app, len_cons, len_nil] at *; omega))) rfl ?_)))))
       refine RL.u (.add (.t rfl) (.t rfl) (fun _ => by first | omega | (simp only [len_app, len_cons, len_nil] at *; omega))) rfl ?_
       refine RL.callE hS233 .none Tryz.call67 (.cons (.t rfl) (.cons (.t rfl) (.cons (.t rfl) .nil))) (fun _ => (make_c (c13) ((Eng.sub (s) (q12) (q19)) ++ (Eng.sub (s) (q28) (q35))) ((-(len (Eng.sub (s) (q28) (q35)))) + ((1) * (decVal (dropZ ([]))))) _ (hg.low hS233.low) (by first | omega | (simp only [len_app] at *; omega)))) rfl (fun w234 hS235 => ?_)
       refine RL.m rfl rfl (RL.u (.ex (.t rfl) rfl) rfl (RL.u (.ex (.t rfl) rfl) rfl ?_))
       refine RL.alloc hS235 Tryz.zeroValue31 rfl (fun w236 b237 hS238 => ?_)
       replace hS238 : St w (fun _ _ => none) w236 (fun _ _ => none) [.box b237 [(i64 0), (i64 0), (str []), (str []), (.bool false), (i64 0)] 31, .box b8 [(i64 q35)] 3, .box b2 [(str s)] 9, .box b5 [(i64 0), (i64 0), (str []), (str []), (.bool false), (i64 0)] 31] := hS238
       refine RL.st hS238 (i := 0) rfl (.t rfl) (.t rfl) Tryz.sizeOf31 rfl rfl rfl (Hs' := [.box b237 (ndC ((mk1 (c13) ((Eng.sub (s) (q12) (q19)) ++ (Eng.sub (s) (q28) (q35))) ((-(len (Eng.sub (s) (q28) (q35)))) + ((1) * (decVal (dropZ ([])))))).1) []) 31, .box b8 [(i64 q35)] 3, .box b2 [(str s)] 9, .box b5 [(i64 0), (i64 0), (str []), (str []), (.bool false), (i64 0)] 31]) rfl rfl (fun w239 hS240 => ?_)
       refine RL.a rfl rfl ?_
       refine RL.nil (CW.at [Y 2 (.pointer (some ⟨b5, 0, none⟩)), Y 18 (.pointer (some ⟨b237, 0, none⟩)), Y 19 (i64 ((mk1 (c13) ((Eng.sub (s) (q12) (q19)) ++ (Eng.sub (s) (q28) (q35))) ((-(len (Eng.sub (s) (q28) (q35)))) + ((1) * (decVal (dropZ ([])))))).2))] rfl ?_)
       refine CW.sr ?_
       refine RL.u (.loadBN (vs := (ndC ((mk1 (c13) ((Eng.sub (s) (q12) (q19)) ++ (Eng.sub (s) (q28) (q35))) ((-(len (Eng.sub (s) (q28) (q35)))) + ((1) * (decVal (dropZ ([])))))).1) [])) hS240 extEq (i := 0) rfl (.t rfl) Tryz.isAgg31 Tryz.sizeOf31 rfl rfl) rfl (RL.m rfl rfl ?_)
       refine RL.st hS240 (i := 3) rfl (.t rfl) (.t rfl) Tryz.sizeOf31 rfl rfl rfl (Hs' := [.box b237 (ndC ((mk1 (c13) ((Eng.sub (s) (q12) (q19)) ++ (Eng.sub (s) (q28) (q35))) ((-(len (Eng.sub (s) (q28) (q35)))) + ((1) * (decVal (dropZ ([])))))).1) []) 31, .box b8 [(i64 q35)] 3, .box b2 [(str s)] 9, .box b5 (ndC ((mk1 (c13) ((Eng.sub (s) (q12) (q19)) ++ (Eng.sub (s) (q28) (q35))) ((-(len (Eng.sub (s) (q28) (q35)))) + ((1) * (decVal (dropZ ([])))))).1) []) 31]) rfl rfl (fun w241 hS242 => ?_)
       refine RL.u (.assign .c) rfl (RL.a rfl rfl ?_)
       refine RL.nil (CW.at [Y 2 (.pointer (some ⟨b5, 0, none⟩)), Y 3 (i64 0), Y 4 (i64 ((mk1 (c13) ((Eng.sub (s) (q12) (q19)) ++ (Eng.sub (s) (q28) (q35))) ((-(len (Eng.sub (s) (q28) (q35)))) + ((1) * (decVal (dropZ ([])))))).2))] rfl ?_)
       refine CW.ret (retR3 (P := Tryz.prog) (fn := Tryz.f32) (R := fun e w' => e = .returned (.tuple #[(ndV ((read1 s).1)), (i64 ((read1 s).2.1)), (i64 ((read1 s).2.2))]) ∧ Ext w w') rfl (.boxN hS242 (i := 3) rfl rfl Tryz.isAgg31 Tryz.sizeOf31) (show RV _ _ _ (.tmp _) _ from rfl) (show RV _ _ _ (.tmp _) _ from rfl) ?_)
       refine ⟨?_, hS242.low⟩
       have hr : read1 s = ((mk1 (c13) ((Eng.sub (s) (q12) (q19)) ++ (Eng.sub (s) (q28) (q35))) ((-(len (Eng.sub (s) (q28) (q35)))) + ((1) * (decVal (dropZ ([])))))).1, 0, (mk1 (c13) ((Eng.sub (s) (q12) (q19)) ++ (Eng.sub (s) (q28) (q35))) ((-(len (Eng.sub (s) (q28) (q35)))) + ((1) * (decVal (dropZ ([])))))).2) := by
        unfold read1 rest1 exp1 fin1
        simp only [← hq12, ← hc13, ← hq19, ← hq28, ← hc29, ← hq35, hb1, hg27', hb2, hg41', hb12, hb13, hb1n, if_true, if_false, reduceIte, or_self, or_true, true_or, and_self, and_true, true_and, false_and, and_false, or_false, false_or, Bool.false_eq_true, not_true_eq_false, not_false_eq_true, beq_self_eq_true]
        all_goals first | rfl | (exfalso; simp [hg27', hb2, hg41', hb12, hb13] at hb1; done) | (exfalso; simp [hb1, hb2, hg41', hb12, hb13] at hg27'; done) | (exfalso; simp [hb1, hg27', hg41', hb12, hb13] at hb2; done) | (exfalso; simp [hb1, hg27', hb2, hb12, hb13] at hg41'; done) | (exfalso; simp [hb1, hg27', hb2, hg41', hb13] at hb12; done) | (exfalso; simp [hb1, hg27', hb2, hg41', hb12] at hb13; done)
       rw [hr]
   ·try simp only [zb, hb1, hg27', and_true, true_and, false_or, or_false, not_true_eq_false, not_false_eq_true] at hb2
    refine CW.skip (CW.at [Y 1 (.pointer (some ⟨b2, 0, none⟩)), Y 2 (.pointer (some ⟨b5, 0, none⟩)), Y 5 (.pointer (some ⟨b8, 0, none⟩)), Y 6 (.func (.func 62) #[] #[(.pointer (some ⟨b8, 0, none⟩)), (.pointer (some ⟨b2, 0, none⟩))]), Y 7 (.func (.func 64) #[] #[(.pointer (some ⟨b8, 0, none⟩)), (.pointer (some ⟨b2, 0, none⟩))]), Y 8 (.bool c13), Y 10 (str (Eng.sub (s) (q12) (q19))), Y 11 (.bool ((Eng.sub (s) (q12) (q19)) == ([]))), Y 12 (i64 0)] rfl ?_)
    refine CW.sr ?_
    refine RL.u (.assign .c) rfl (RL.u (.assign .c) rfl ?_)
    refine RL.nil (CW.at [Y 1 (.pointer (some ⟨b2, 0, none⟩)), Y 2 (.pointer (some ⟨b5, 0, none⟩)), Y 5 (.pointer (some ⟨b8, 0, none⟩)), Y 6 (.func (.func 62) #[] #[(.pointer (some ⟨b8, 0, none⟩)), (.pointer (some ⟨b2, 0, none⟩))]), Y 7 (.func (.func 64) #[] #[(.pointer (some ⟨b8, 0, none⟩)), (.pointer (some ⟨b2, 0, none⟩))]), Y 8 (.bool c13), Y 10 (str (Eng.sub (s) (q12) (q19))), Y 11 (.bool ((Eng.sub (s) (q12) (q19)) == ([]))), Y 12 (i64 0), Y 14 (str []), Y 15 (i64 1)] rfl ?_)
    refine CW.seq ?_
    refine CW.sr ?_
    refine RL.m rfl rfl (RL.u (.not (.t rfl)) rfl (RL.m rfl rfl (RL.v (.pos rfl rfl) (.move (.t rfl)) rfl ?_)))
    refine RL.split (.pos rfl rfl) rfl (fun _ => ?_) (fun h => by rw [hg27] at h; cases h)
    replace hS33 : St w (fun _ _ => none) w31 (fun _ _ => none) [.box b2 [(str s)] 9, .box b8 [(i64 q28)] 3, .box b5 [(i64 0), (i64 0), (str []), (str []), (.bool false), (i64 0)] 31] := hS33.front 1 rfl rfl
    replace hS33 : St w (fun _ _ => none) w31 (fun _ _ => none) [.box b8 [(i64 q28)] 3, .box b2 [(str s)] 9, .box b5 [(i64 0), (i64 0), (str []), (str []), (.bool false), (i64 0)] 31] := hS33.front 1 rfl rfl
    refine RL.callC (fs := []) (cs := [(.pointer (some ⟨b8, 0, none⟩)), (.pointer (some ⟨b2, 0, none⟩))]) Tryz.call64 (.g rfl (fun _ => hg27)) (.cons .c .nil) (is_q (Rs := [.box b5 [(i64 0), (i64 0), (str []), (str []), (.bool false), (i64 0)] 31]) (s) ([101, 69]) (q28) b8 b2 hS33 (by omega) (by omega) (by omega)) rfl ?_
    rintro v245 w246 ⟨q243, c244, hq243, hc244, hq243a, hq243b, hc244y, hc244n, rfl, hS248⟩
    replace hS248 : St w (fun _ _ => none) w246 (fun _ _ => none) [.box b8 [(i64 q243)] 3, .box b2 [(str s)] 9, .box b5 [(i64 0), (i64 0), (str []), (str []), (.bool false), (i64 0)] 31] := hS248
    refine RL.u (.and (.t rfl) (.t rfl)) rfl ?_
    refine RL.nil (CW.at [Y 1 (.pointer (some ⟨b2, 0, none⟩)), Y 2 (.pointer (some ⟨b5, 0, none⟩)), Y 5 (.pointer (some ⟨b8, 0, none⟩)), Y 6 (.func (.func 62) #[] #[(.pointer (some ⟨b8, 0, none⟩)), (.pointer (some ⟨b2, 0, none⟩))]), Y 7 (.func (.func 64) #[] #[(.pointer (some ⟨b8, 0, none⟩)), (.pointer (some ⟨b2, 0, none⟩))]), Y 8 (.bool c13), Y 10 (str (Eng.sub (s) (q12) (q19))), Y 11 (.bool ((Eng.sub (s) (q12) (q19)) == ([]))), Y 12 (i64 0), Y 14 (str []), Y 15 (i64 1), Y 61 (.bool ((!((Eng.sub (s) (q12) (q19)) == ([]))) && (c244)))] rfl ?_)
    refine CW.cond rfl (fun hb14 => ?_) (fun hb14 => ?_)
    ·try simp only [zb, hb1, hg27', hb2, and_true, true_and, false_or, or_false, not_true_eq_false, not_false_eq_true] at hb14
     refine CW.seq ?_
     refine CW.sr ?_
     refine RL.m rfl rfl ?_
     replace hS248 : St w (fun _ _ => none) w246 (fun _ _ => none) [.box b2 [(str s)] 9, .box b8 [(i64 q243)] 3, .box b5 [(i64 0), (i64 0), (str []), (str []), (.bool false), (i64 0)] 31] := hS248.front 1 rfl rfl
     replace hS248 : St w (fun _ _ => none) w246 (fun _ _ => none) [.box b8 [(i64 q243)] 3, .box b2 [(str s)] 9, .box b5 [(i64 0), (i64 0), (str []), (str []), (.bool false), (i64 0)] 31] := hS248.front 1 rfl rfl
     refine RL.callC (fs := []) (cs := [(.pointer (some ⟨b8, 0, none⟩)), (.pointer (some ⟨b2, 0, none⟩))]) Tryz.call64 (.t rfl) (.cons .c .nil) (is_q (Rs := [.box b5 [(i64 0), (i64 0), (str []), (str []), (.bool false), (i64 0)] 31]) (s) ([45]) (q243) b8 b2 hS248 (by omega) (by omega) (by omega)) rfl ?_
     rintro v252 w253 ⟨q250, c251, hq250, hc251, hq250a, hq250b, hc251y, hc251n, rfl, hS255⟩
     replace hS255 : St w (fun _ _ => none) w253 (fun _ _ => none) [.box b8 [(i64 q250)] 3, .box b2 [(str s)] 9, .box b5 [(i64 0), (i64 0), (str []), (str []), (.bool false), (i64 0)] 31] := hS255
     refine RL.nil (CW.at [Y 1 (.pointer (some ⟨b2, 0, none⟩)), Y 2 (.pointer (some ⟨b5, 0, none⟩)), Y 5 (.pointer (some ⟨b8, 0, none⟩)), Y 6 (.func (.func 62) #[] #[(.pointer (some ⟨b8, 0, none⟩)), (.pointer (some ⟨b2, 0, none⟩))]), Y 7 (.func (.func 64) #[] #[(.pointer (some ⟨b8, 0, none⟩)), (.pointer (some ⟨b2, 0, none⟩))]), Y 8 (.bool c13), Y 10 (str (Eng.sub (s) (q12) (q19))), Y 12 (i64 0), Y 15 (i64 1), Y 63 (.bool c251)] rfl ?_)
     refine CW.cond rfl (fun hb15 => ?_) (fun hb15 => ?_)
     ·try simp only [zb, hb1, hg27', hb2, hb14, and_true, true_and, false_or, or_false, not_true_eq_false, not_false_eq_true] at hb15
      refine CW.region ?_
      refine RL.u (.assign .c) rfl ?_
      refine RL.nil (CW.at [Y 1 (.pointer (some ⟨b2, 0, none⟩)), Y 2 (.pointer (some ⟨b5, 0, none⟩)), Y 5 (.pointer (some ⟨b8, 0, none⟩)), Y 6 (.func (.func 62) #[] #[(.pointer (some ⟨b8, 0, none⟩)), (.pointer (some ⟨b2, 0, none⟩))]), Y 8 (.bool c13), Y 10 (str (Eng.sub (s) (q12) (q19))), Y 12 (i64 0), Y 15 (i64 (-1))] rfl ?_)
      refine CW.sr ?_
      refine RL.m rfl rfl ?_
      replace hS255 : St w (fun _ _ => none) w253 (fun _ _ => none) [.box b2 [(str s)] 9, .box b8 [(i64 q250)] 3, .box b5 [(i64 0), (i64 0), (str []), (str []), (.bool false), (i64 0)] 31] := hS255.front 1 rfl rfl
      replace hS255 : St w (fun _ _ => none) w253 (fun _ _ => none) [.box b8 [(i64 q250)] 3, .box b2 [(str s)] 9, .box b5 [(i64 0), (i64 0), (str []), (str []), (.bool false), (i64 0)] 31] := hS255.front 1 rfl rfl
      refine RL.callC (fs := []) (cs := [(.pointer (some ⟨b8, 0, none⟩)), (.pointer (some ⟨b2, 0, none⟩))]) Tryz.call62 (.t rfl) .nil (take_q (Rs := [.box b5 [(i64 0), (i64 0), (str []), (str []), (.bool false), (i64 0)] 31]) (s) (q250) b8 b2 hS255 (by omega) (by omega) (by omega)) rfl ?_
      rintro v258 w259 ⟨q257, hq257, hq257a, hq257b, hq257c, rfl, hS261⟩
      replace hS261 : St w (fun _ _ => none) w259 (fun _ _ => none) [.box b8 [(i64 q257)] 3, .box b2 [(str s)] 9, .box b5 [(i64 0), (i64 0), (str []), (str []), (.bool false), (i64 0)] 31] := hS261
      refine RL.a rfl rfl ?_
      refine RL.nil (CW.at [Y 1 (.pointer (some ⟨b2, 0, none⟩)), Y 2 (.pointer (some ⟨b5, 0, none⟩)), Y 5 (.pointer (some ⟨b8, 0, none⟩)), Y 8 (.bool c13), Y 10 (str (Eng.sub (s) (q12) (q19))), Y 12 (i64 0), Y 14 (str (Eng.sub (s) (q250) (q257))), Y 15 (i64 (-1))] rfl ?_)
      refine CW.region ?_
      refine RL.m rfl rfl (RL.u (.seql (.t rfl) .c) rfl (RL.a rfl rfl ?_))
      refine RL.nil (CW.at [Y 1 (.pointer (some ⟨b2, 0, none⟩)), Y 2 (.pointer (some ⟨b5, 0, none⟩)), Y 5 (.pointer (some ⟨b8, 0, none⟩)), Y 8 (.bool c13), Y 10 (str (Eng.sub (s) (q12) (q19))), Y 11 (.bool ((Eng.sub (s) (q250) (q257)) == ([]))), Y 12 (i64 0), Y 14 (str (Eng.sub (s) (q250) (q257))), Y 15 (i64 (-1))] rfl ?_)
      refine CW.seq ?_
      refine CW.sr ?_
      refine RL.m rfl rfl (RL.m rfl rfl (RL.v (.neg rfl rfl) (.loadB1 (v := (i64 q257)) hS261 extEq (i := 0) rfl (.t rfl) Tryz.isAgg3 rfl) rfl (RL.v (.neg rfl rfl) (.loadB1 (v := (str s)) hS261 extEq (i := 1) rfl (.t rfl) Tryz.isAgg9 rfl) rfl (RL.v (.neg rfl rfl) (.lenS (.g rfl (fun h => h)) Tryz.underlying9) rfl (RL.v (.neg rfl rfl) (.lss (.g rfl (fun h => h)) (.g rfl (fun h => h))) rfl ?_)))))
      refine RL.u (.or (.t rfl) (.g rfl (fun h => h))) rfl ?_
      refine RL.nil (CW.at [Y 2 (.pointer (some ⟨b5, 0, none⟩)), Y 5 (.pointer (some ⟨b8, 0, none⟩)), Y 8 (.bool c13), Y 10 (str (Eng.sub (s) (q12) (q19))), Y 12 (i64 0), Y 14 (str (Eng.sub (s) (q250) (q257))), Y 15 (i64 (-1)), Y 76 (.bool (((Eng.sub (s) (q250) (q257)) == ([])) || (decide ((q257) < (len (s))))))] rfl ?_)
      refine CW.cond rfl (fun hb16 => ?_) (fun hb16 => ?_)
      ·try simp only [zb, hb1, hg27', hb2, hb14, hb15, and_true, true_and, false_or, or_false, not_true_eq_false, not_false_eq_true] at hb16
       refine CW.seq ?_
       refine CW.weaken [2, 5, 8, 10, 12, 14, 15] (L' := [Y 2 (.pointer (some ⟨b5, 0, none⟩)), Y 5 (.pointer (some ⟨b8, 0, none⟩)), Y 8 (.bool c13), Y 10 (str (Eng.sub (s) (q12) (q19))), Y 12 (i64 0), Y 14 (str (Eng.sub (s) (q250) (q257))), Y 15 (i64 (-1))]) ?_ rfl
       refine CW.regionF [.is (true) (.agg #[(i64 0), (i64 0), (str []), (str []), (.bool false), (i64 0)]), .is (true) (i64 q257), .any, .is (true) (i64 q257), .is (true) (i64 1)] hS261 tryz_mixed [2, 5, 8, 10, 12, 14, 15] rfl (by decide +kernel) (.cons ?_ (.cons ?_ (.cons ?_ (.cons ?_ (.cons ?_ (.nil)))))) ?_
       ·intro LL w263 M264 hle266 hS265 hK hD
        refine RL.u (.build (vs := []) (v := (.agg #[(i64 0), (i64 0), (str []), (str []), (.bool false), (i64 0)])) .nil (fun w => by kernel_rfl)) rfl ?_
        exact RL.nil (RA.next fun a hs => ⟨_, _, Mem.le.refl _, hS265, hs, _, _, rfl, rfl, rfl⟩)
       ·intro LL w267 M268 hle270 hS269 hK hD
        refine RL.u (.loadB1 (v := (i64 q257)) hS269 extEq (i := 0) rfl (.t (hK _ _ rfl)) Tryz.isAgg3 rfl) rfl ?_
        exact RL.nil (RA.next fun a hs => ⟨_, _, Mem.le.refl _, hS269, hs, _, _, rfl, rfl, rfl⟩)
       ·intro LL w271 M272 hle274 hS273 hK hD
        obtain ⟨g77, v77, hl77, rfl, rfl⟩ := hD 0 (by decide +kernel)
        obtain ⟨g77, v77, hl77, rfl, rfl⟩ := hD 0 (by decide +kernel)
        refine RL.st hS273 (i := 2) rfl (.t (hK _ _ rfl)) (.t hl77) Tryz.sizeOf31 rfl rfl rfl (Hs' := [.box b8 [(i64 q257)] 3, .box b2 [(str s)] 9, .box b5 [(i64 0), (i64 0), (str []), (str []), (.bool false), (i64 0)] 31]) rfl rfl (fun w275 hS276 => ?_)
        exact RL.nil (RA.next fun a hs => ⟨_, _, Mem.le.refl _, hS276, hs, rfl⟩)
       ·intro LL w277 M278 hle280 hS279 hK hD
        obtain ⟨g78, v78, hl78, rfl, rfl⟩ := hD 1 (by decide +kernel)
        obtain ⟨g78, v78, hl78, rfl, rfl⟩ := hD 1 (by decide +kernel)
        refine RL.u (.assign (.t hl78)) rfl ?_
        exact RL.nil (RA.next fun a hs => ⟨_, _, Mem.le.refl _, hS279, hs, _, _, rfl, rfl, rfl⟩)
       ·intro LL w281 M282 hle284 hS283 hK hD
        refine RL.u (.assign .c) rfl ?_
        exact RL.nil (RA.next fun a hs => ⟨_, _, Mem.le.refl _, hS283, hs, _, _, rfl, rfl, rfl⟩)
       intro w285 M286 LL hle288 hS287 hK hD
       obtain ⟨g3, v3, hl3, rfl, rfl⟩ := hD 3 (by decide)
       obtain ⟨g4, v4, hl4, rfl, rfl⟩ := hD 4 (by decide)
       refine slots_sub (E := [Y 2 (.pointer (some ⟨b5, 0, none⟩)), Y 3 (i64 q257), Y 4 (i64 1), Y 5 (.pointer (some ⟨b8, 0, none⟩)), Y 8 (.bool c13), Y 10 (str (Eng.sub (s) (q12) (q19))), Y 12 (i64 0), Y 14 (str (Eng.sub (s) (q250) (q257))), Y 15 (i64 (-1))]) (.cons (hK _ _ rfl) (.cons (hl3) (.cons (hl4) (.cons (hK _ _ rfl) (.cons (hK _ _ rfl) (.cons (hK _ _ rfl) (.cons (hK _ _ rfl) (.cons (hK _ _ rfl) (.cons (hK _ _ rfl) .nil))))))))) ?_
       replace hS287 : St w (fun _ _ => none) w285 M286 [.box b8 [(i64 q257)] 3, .box b2 [(str s)] 9, .box b5 [(i64 0), (i64 0), (str []), (str []), (.bool false), (i64 0)] 31] := hS287
       refine (CW.at [Y 2 (.pointer (some ⟨b5, 0, none⟩)), Y 3 (i64 q257), Y 4 (i64 1)] rfl ?_)
       refine CW.ret (retR3 (P := Tryz.prog) (fn := Tryz.f32) (R := fun e w' => e = .returned (.tuple #[(ndV ((read1 s).1)), (i64 ((read1 s).2.1)), (i64 ((read1 s).2.2))]) ∧ Ext w w') rfl (.boxN hS287 (i := 2) rfl rfl Tryz.isAgg31 Tryz.sizeOf31) (show RV _ _ _ (.tmp _) _ from rfl) (show RV _ _ _ (.tmp _) _ from rfl) ?_)
       refine ⟨?_, hS287.low⟩
       have hr : read1 s = (⟨0, 0, [], [], false, 0⟩, q257, 1) := by
        unfold read1 rest1 exp1 fin1
        simp only [← hq12, ← hc13, ← hq19, ← hq28, ← hc29, ← hq243, ← hc244, ← hq250, ← hc251, ← hq257, hb1, hg27', hb2, hb14, hb15, hb16, hb1n, if_true, if_false, reduceIte, or_self, or_true, true_or, and_self, and_true, true_and, false_and, and_false, or_false, false_or, Bool.false_eq_true, not_true_eq_false, not_false_eq_true, beq_self_eq_true]
        all_goals first | rfl | (exfalso; simp [hg27', hb2, hb14, hb15, hb16] at hb1; done) | (exfalso; simp [hb1, hb2, hb14, hb15, hb16] at hg27'; done) | (exfalso; simp [hb1, hg27', hb14, hb15, hb16] at hb2; done) | (exfalso; simp [hb1, hg27', hb2, hb15, hb16] at hb14; done) | (exfalso; simp [hb1, hg27', hb2, hb14, hb16] at hb15; done) | (exfalso; simp [hb1, hg27', hb2, hb14, hb15] at hb16; done)
       rw [hr]
      ·try simp only [zb, hb1, hg27', hb2, hb14, hb15, and_true, true_and, false_or, or_false, not_true_eq_false, not_false_eq_true] at hb16
       refine CW.skip (CW.at [Y 2 (.pointer (some ⟨b5, 0, none⟩)), Y 8 (.bool c13), Y 10 (str (Eng.sub (s) (q12) (q19))), Y 12 (i64 0), Y 14 (str (Eng.sub (s) (q250) (q257))), Y 15 (i64 (-1))] rfl ?_)
       refine CW.sr ?_
       refine RL.m rfl rfl ?_
       refine RL.callE hS261 .none Tryz.call15 (.cons (.t rfl) (.cons .c .nil)) (fun _ => (trimLeft_c (Eng.sub (s) (q250) (q257)) ([48]) _ (by decide) (cut_low (by decide)))) rfl (fun w289 hS290 => ?_)
       refine RL.a rfl rfl ?_
       refine RL.nil (CW.at [Y 2 (.pointer (some ⟨b5, 0, none⟩)), Y 8 (.bool c13), Y 10 (str (Eng.sub (s) (q12) (q19))), Y 12 (i64 0), Y 14 (str (dropZ (Eng.sub (s) (q250) (q257)))), Y 15 (i64 (-1))] rfl ?_)
       refine CW.seq ?_
       refine CW.sr ?_
       refine RL.m rfl rfl (RL.u (.lenS (.t rfl) Tryz.underlying9) rfl (RL.u (.gtr (.t rfl) .c) rfl ?_))
       refine RL.nil (CW.at [Y 2 (.pointer (some ⟨b5, 0, none⟩)), Y 8 (.bool c13), Y 10 (str (Eng.sub (s) (q12) (q19))), Y 12 (i64 0), Y 14 (str (dropZ (Eng.sub (s) (q250) (q257)))), Y 15 (i64 (-1)), Y 83 (.bool (decide ((6) < (len (dropZ (Eng.sub (s) (q250) (q257)))))))] rfl ?_)
       refine CW.cond rfl (fun hb17 => ?_) (fun hb17 => ?_)
       ·try simp only [zb, hb1, hg27', hb2, hb14, hb15, hb16, and_true, true_and, false_or, or_false, not_true_eq_false, not_false_eq_true] at hb17
        refine CW.sr ?_
        refine RL.u (.build (vs := []) (v := (.agg #[(i64 0), (i64 0), (str []), (str []), (.bool false), (i64 0)])) .nil (fun w => by kernel_rfl)) rfl ?_
        refine RL.st hS290 (i := 2) rfl (.t rfl) (.t rfl) Tryz.sizeOf31 rfl rfl rfl (Hs' := [.box b8 [(i64 q257)] 3, .box b2 [(str s)] 9, .box b5 [(i64 0), (i64 0), (str []), (str []), (.bool false), (i64 0)] 31]) rfl rfl (fun w291 hS292 => ?_)
        refine RL.u (.assign .c) rfl (RL.u (.assign .c) rfl ?_)
        refine RL.nil (CW.at [Y 2 (.pointer (some ⟨b5, 0, none⟩)), Y 3 (i64 0), Y 4 (i64 2)] rfl ?_)
        refine CW.ret (retR3 (P := Tryz.prog) (fn := Tryz.f32) (R := fun e w' => e = .returned (.tuple #[(ndV ((read1 s).1)), (i64 ((read1 s).2.1)), (i64 ((read1 s).2.2))]) ∧ Ext w w') rfl (.boxN hS292 (i := 2) rfl rfl Tryz.isAgg31 Tryz.sizeOf31) (show RV _ _ _ (.tmp _) _ from rfl) (show RV _ _ _ (.tmp _) _ from rfl) ?_)
        refine ⟨?_, hS292.low⟩
        have hr : read1 s = (⟨0, 0, [], [], false, 0⟩, 0, 2) := by
         unfold read1 rest1 exp1 fin1
         simp only [← hq12, ← hc13, ← hq19, ← hq28, ← hc29, ← hq243, ← hc244, ← hq250, ← hc251, ← hq257, hb1, hg27', hb2, hb14, hb15, hb16, hb17, hb1n, if_true, if_false, reduceIte, or_self, or_true, true_or, and_self, and_true, true_and, false_and, and_false, or_false, false_or, Bool.false_eq_true, not_true_eq_false, not_false_eq_true, beq_self_eq_true]
         all_goals first | rfl | (exfalso; simp [hg27', hb2, hb14, hb15, hb16, hb17] at hb1; done) | (exfalso; simp [hb1, hb2, hb14, hb15, hb16, hb17] at hg27'; done) | (exfalso; simp [hb1, hg27', hb14, hb15, hb16, hb17] at hb2; done) | (exfalso; simp [hb1, hg27', hb2, hb15, hb16, hb17] at hb14; done) | (exfalso; simp [hb1, hg27', hb2, hb14, hb16, hb17] at hb15; done) | (exfalso; simp [hb1, hg27', hb2, hb14, hb15, hb17] at hb16; done) | (exfalso; simp [hb1, hg27', hb2, hb14, hb15, hb16] at hb17; done)
        rw [hr]
       ·try simp only [zb, hb1, hg27', hb2, hb14, hb15, hb16, and_true, true_and, false_or, or_false, not_true_eq_false, not_false_eq_true] at hb17
        refine CW.skip (CW.at [Y 2 (.pointer (some ⟨b5, 0, none⟩)), Y 8 (.bool c13), Y 10 (str (Eng.sub (s) (q12) (q19))), Y 12 (i64 0), Y 14 (str (dropZ (Eng.sub (s) (q250) (q257)))), Y 15 (i64 (-1))] rfl ?_)
        refine CW.sr ?_
        refine RL.m rfl rfl (RL.u (.sadd .c (.t rfl) (fun _ => by first | omega | (simp only [len_app, len_cons, len_nil] at *; omega))) rfl ?_)
        have hv293 := atoi_figs (l := dropZ (Eng.sub (s) (q250) (q257))) (by first | (refine figs_drop ?_; subst_vars; exact figs_run (by omega)) | (intro b hb; cases hb)) (by omega)
        refine RL.callE hS290 .none Tryz.call66 (.cons (.t rfl) .nil) (fun _ => (atoi_c ([48] ++ (dropZ (Eng.sub (s) (q250) (q257)))) (decVal (dropZ (Eng.sub (s) (q250) (q257)))) _ (by simp only [len_app, len_cons, len_nil] at *; omega) hv293.1)) rfl (fun w294 hS295 => ?_)
        refine RL.m rfl rfl (RL.u (.ex (.t rfl) rfl) rfl (RL.u (.ex (.t rfl) rfl) rfl (RL.a rfl rfl (RL.a rfl rfl ?_))))
        refine RL.nil (CW.at [Y 2 (.pointer (some ⟨b5, 0, none⟩)), Y 8 (.bool c13), Y 10 (str (Eng.sub (s) (q12) (q19))), Y 12 (i64 0), Y 15 (i64 (-1)), Y 16 (i64 (decVal (dropZ (Eng.sub (s) (q250) (q257)))))] rfl ?_)
        refine CW.sr ?_
        refine RL.m rfl rfl (RL.m rfl rfl (RL.m rfl rfl (RL.m rfl rfl (RL.m rfl rfl (RL.u (.mul (.t rfl) (.t rfl) (fun _ => by first | omega | (simp only [len_app, len_cons, len_nil] at *; omega))) rfl ?_)))))
        refine RL.u (.add (.t rfl) (.t rfl) (fun _ => by first | omega | (simp only [len_app, len_cons, len_nil] at *; omega))) rfl ?_
        refine RL.callE hS295 .none Tryz.call67 (.cons (.t rfl) (.cons (.t rfl) (.cons (.t rfl) .nil))) (fun _ => (make_c (c13) (Eng.sub (s) (q12) (q19)) ((0) + (((-1)) * (decVal (dropZ (Eng.sub (s) (q250) (q257)))))) _ (hg.low hS295.low) (by first | omega | (simp only [len_app] at *; omega)))) rfl (fun w296 hS297 => ?_)
        refine RL.m rfl rfl (RL.u (.ex (.t rfl) rfl) rfl (RL.u (.ex (.t rfl) rfl) rfl ?_))
        refine RL.alloc hS297 Tryz.zeroValue31 rfl (fun w298 b299 hS300 => ?_)
        replace hS300 : St w (fun _ _ => none) w298 (fun _ _ => none) [.box b299 [(i64 0), (i64 0), (str []), (str []), (.bool false), (i64 0)] 31, .box b8 [(i64 q257)] 3, .box b2 [(str s)] 9, .box b5 [(i64 0), (i64 0), (str []), (str []), (.bool false), (i64 0)] 31] := hS300
        refine RL.st hS300 (i := 0) rfl (.t rfl) (.t rfl) Tryz.sizeOf31 rfl rfl rfl (Hs' := [.box b299 (ndC ((mk1 (c13) (Eng.sub (s) (q12) (q19)) ((0) + (((-1)) * (decVal (dropZ (Eng.sub (s) (q250) (q257))))))).1) []) 31, .box b8 [(i64 q257)] 3, .box b2 [(str s)] 9, .box b5 [(i64 0), (i64 0), (str []), (str []), (.bool false), (i64 0)] 31]) rfl rfl (fun w301 hS302 => ?_)
        refine RL.a rfl rfl ?_
        refine RL.nil (CW.at [Y 2 (.pointer (some ⟨b5, 0, none⟩)), Y 18 (.pointer (some ⟨b299, 0, none⟩)), Y 19 (i64 ((mk1 (c13) (Eng.sub (s) (q12) (q19)) ((0) + (((-1)) * (decVal (dropZ (Eng.sub (s) (q250) (q257))))))).2))] rfl ?_)
        refine CW.sr ?_
        refine RL.u (.loadBN (vs := (ndC ((mk1 (c13) (Eng.sub (s) (q12) (q19)) ((0) + (((-1)) * (decVal (dropZ (Eng.sub (s) (q250) (q257))))))).1) [])) hS302 extEq (i := 0) rfl (.t rfl) Tryz.isAgg31 Tryz.sizeOf31 rfl rfl) rfl (RL.m rfl rfl ?_)
        refine RL.st hS302 (i := 3) rfl (.t rfl) (.t rfl) Tryz.sizeOf31 rfl rfl rfl (Hs' := [.box b299 (ndC ((mk1 (c13) (Eng.sub (s) (q12) (q19)) ((0) + (((-1)) * (decVal (dropZ (Eng.sub (s) (q250) (q257))))))).1) []) 31, .box b8 [(i64 q257)] 3, .box b2 [(str s)] 9, .box b5 (ndC ((mk1 (c13) (Eng.sub (s) (q12) (q19)) ((0) + (((-1)) * (decVal (dropZ (Eng.sub (s) (q250) (q257))))))).1) []) 31]) rfl rfl (fun w303 hS304 => ?_)
        refine RL.u (.assign .c) rfl (RL.a rfl rfl ?_)
        refine RL.nil (CW.at [Y 2 (.pointer (some ⟨b5, 0, none⟩)), Y 3 (i64 0), Y 4 (i64 ((mk1 (c13) (Eng.sub (s) (q12) (q19)) ((0) + (((-1)) * (decVal (dropZ (Eng.sub (s) (q250) (q257))))))).2))] rfl ?_)
        refine CW.ret (retR3 (P := Tryz.prog) (fn := Tryz.f32) (R := fun e w' => e = .returned (.tuple #[(ndV ((read1 s).1)), (i64 ((read1 s).2.1)), (i64 ((read1 s).2.2))]) ∧ Ext w w') rfl (.boxN hS304 (i := 3) rfl rfl Tryz.isAgg31 Tryz.sizeOf31) (show RV _ _ _ (.tmp _) _ from rfl) (show RV _ _ _ (.tmp _) _ from rfl) ?_)
        refine ⟨?_, hS304.low⟩
        have hr : read1 s = ((mk1 (c13) (Eng.sub (s) (q12) (q19)) ((0) + (((-1)) * (decVal (dropZ (Eng.sub (s) (q250) (q257))))))).1, 0, (mk1 (c13) (Eng.sub (s) (q12) (q19)) ((0) + (((-1)) * (decVal (dropZ (Eng.sub (s) (q250) (q257))))))).2) := by
         unfold read1 rest1 exp1 fin1
         simp only [← hq12, ← hc13, ← hq19, ← hq28, ← hc29, ← hq243, ← hc244, ← hq250, ← hc251, ← hq257, hb1, hg27', hb2, hb14, hb15, hb16, hb17, hb1n, if_true, if_false, reduceIte, or_self, or_true, true_or, and_self, and_true, true_and, false_and, and_false, or_false, false_or, Bool.false_eq_true, not_true_eq_false, not_false_eq_true, beq_self_eq_true]
         all_goals first | rfl | (exfalso; simp [hg27', hb2, hb14, hb15, hb16, hb17] at hb1; done) | (exfalso; simp [hb1, hb2, hb14, hb15, hb16, hb17] at hg27'; done) | (exfalso; simp [hb1, hg27', hb14, hb15, hb16, hb17] at hb2; done) | (exfalso; simp [hb1, hg27', hb2, hb15, hb16, hb17] at hb14; done) | (exfalso; simp [hb1, hg27', hb2, hb14, hb16, hb17] at hb15; done) | (exfalso; simp [hb1, hg27', hb2, hb14, hb15, hb17] at hb16; done) | (exfalso; simp [hb1, hg27', hb2, hb14, hb15, hb16] at hb17; done)
        rw [hr]
     ·try simp only [zb, hb1, hg27', hb2, hb14, and_true, true_and, false_or, or_false, not_true_eq_false, not_false_eq_true] at hb15
      refine CW.region ?_
      refine RL.m rfl rfl ?_
      replace hS255 : St w (fun _ _ => none) w253 (fun _ _ => none) [.box b2 [(str s)] 9, .box b8 [(i64 q250)] 3, .box b5 [(i64 0), (i64 0), (str []), (str []), (.bool false), (i64 0)] 31] := hS255.front 1 rfl rfl
      replace hS255 : St w (fun _ _ => none) w253 (fun _ _ => none) [.box b8 [(i64 q250)] 3, .box b2 [(str s)] 9, .box b5 [(i64 0), (i64 0), (str []), (str []), (.bool false), (i64 0)] 31] := hS255.front 1 rfl rfl
      refine RL.callC (fs := []) (cs := [(.pointer (some ⟨b8, 0, none⟩)), (.pointer (some ⟨b2, 0, none⟩))]) Tryz.call64 (.t rfl) (.cons .c .nil) (is_q (Rs := [.box b5 [(i64 0), (i64 0), (str []), (str []), (.bool false), (i64 0)] 31]) (s) ([43]) (q250) b8 b2 hS255 (by omega) (by omega) (by omega)) rfl ?_
      rintro v307 w308 ⟨q305, c306, hq305, hc306, hq305a, hq305b, hc306y, hc306n, rfl, hS310⟩
      replace hS310 : St w (fun _ _ => none) w308 (fun _ _ => none) [.box b8 [(i64 q305)] 3, .box b2 [(str s)] 9, .box b5 [(i64 0), (i64 0), (str []), (str []), (.bool false), (i64 0)] 31] := hS310
      refine RL.nil (CW.at [Y 1 (.pointer (some ⟨b2, 0, none⟩)), Y 2 (.pointer (some ⟨b5, 0, none⟩)), Y 5 (.pointer (some ⟨b8, 0, none⟩)), Y 6 (.func (.func 62) #[] #[(.pointer (some ⟨b8, 0, none⟩)), (.pointer (some ⟨b2, 0, none⟩))]), Y 8 (.bool c13), Y 10 (str (Eng.sub (s) (q12) (q19))), Y 12 (i64 0), Y 15 (i64 1)] rfl ?_)
      refine CW.sr ?_
      refine RL.m rfl rfl ?_
      replace hS310 : St w (fun _ _ => none) w308 (fun _ _ => none) [.box b2 [(str s)] 9, .box b8 [(i64 q305)] 3, .box b5 [(i64 0), (i64 0), (str []), (str []), (.bool false), (i64 0)] 31] := hS310.front 1 rfl rfl
      replace hS310 : St w (fun _ _ => none) w308 (fun _ _ => none) [.box b8 [(i64 q305)] 3, .box b2 [(str s)] 9, .box b5 [(i64 0), (i64 0), (str []), (str []), (.bool false), (i64 0)] 31] := hS310.front 1 rfl rfl
      refine RL.callC (fs := []) (cs := [(.pointer (some ⟨b8, 0, none⟩)), (.pointer (some ⟨b2, 0, none⟩))]) Tryz.call62 (.t rfl) .nil (take_q (Rs := [.box b5 [(i64 0), (i64 0), (str []), (str []), (.bool false), (i64 0)] 31]) (s) (q305) b8 b2 hS310 (by omega) (by omega) (by omega)) rfl ?_
      rintro v313 w314 ⟨q312, hq312, hq312a, hq312b, hq312c, rfl, hS316⟩
      replace hS316 : St w (fun _ _ => none) w314 (fun _ _ => none) [.box b8 [(i64 q312)] 3, .box b2 [(str s)] 9, .box b5 [(i64 0), (i64 0), (str []), (str []), (.bool false), (i64 0)] 31] := hS316
      refine RL.a rfl rfl ?_
      refine RL.nil (CW.at [Y 1 (.pointer (some ⟨b2, 0, none⟩)), Y 2 (.pointer (some ⟨b5, 0, none⟩)), Y 5 (.pointer (some ⟨b8, 0, none⟩)), Y 8 (.bool c13), Y 10 (str (Eng.sub (s) (q12) (q19))), Y 12 (i64 0), Y 14 (str (Eng.sub (s) (q305) (q312))), Y 15 (i64 1)] rfl ?_)
      refine CW.region ?_
      refine RL.m rfl rfl (RL.u (.seql (.t rfl) .c) rfl (RL.a rfl rfl ?_))
      refine RL.nil (CW.at [Y 1 (.pointer (some ⟨b2, 0, none⟩)), Y 2 (.pointer (some ⟨b5, 0, none⟩)), Y 5 (.pointer (some ⟨b8, 0, none⟩)), Y 8 (.bool c13), Y 10 (str (Eng.sub (s) (q12) (q19))), Y 11 (.bool ((Eng.sub (s) (q305) (q312)) == ([]))), Y 12 (i64 0), Y 14 (str (Eng.sub (s) (q305) (q312))), Y 15 (i64 1)] rfl ?_)
      refine CW.seq ?_
      refine CW.sr ?_
      refine RL.m rfl rfl (RL.m rfl rfl (RL.v (.neg rfl rfl) (.loadB1 (v := (i64 q312)) hS316 extEq (i := 0) rfl (.t rfl) Tryz.isAgg3 rfl) rfl (RL.v (.neg rfl rfl) (.loadB1 (v := (str s)) hS316 extEq (i := 1) rfl (.t rfl) Tryz.isAgg9 rfl) rfl (RL.v (.neg rfl rfl) (.lenS (.g rfl (fun h => h)) Tryz.underlying9) rfl (RL.v (.neg rfl rfl) (.lss (.g rfl (fun h => h)) (.g rfl (fun h => h))) rfl ?_)))))
      refine RL.u (.or (.t rfl) (.g rfl (fun h => h))) rfl ?_
      refine RL.nil (CW.at [Y 2 (.pointer (some ⟨b5, 0, none⟩)), Y 5 (.pointer (some ⟨b8, 0, none⟩)), Y 8 (.bool c13), Y 10 (str (Eng.sub (s) (q12) (q19))), Y 12 (i64 0), Y 14 (str (Eng.sub (s) (q305) (q312))), Y 15 (i64 1), Y 76 (.bool (((Eng.sub (s) (q305) (q312)) == ([])) || (decide ((q312) < (len (s))))))] rfl ?_)
      refine CW.cond rfl (fun hb18 => ?_) (fun hb18 => ?_)
      ·try simp only [zb, hb1, hg27', hb2, hb14, hb15, and_true, true_and, false_or, or_false, not_true_eq_false, not_false_eq_true] at hb18
       refine CW.seq ?_
       refine CW.weaken [2, 5, 8, 10, 12, 14, 15] (L' := [Y 2 (.pointer (some ⟨b5, 0, none⟩)), Y 5 (.pointer (some ⟨b8, 0, none⟩)), Y 8 (.bool c13), Y 10 (str (Eng.sub (s) (q12) (q19))), Y 12 (i64 0), Y 14 (str (Eng.sub (s) (q305) (q312))), Y 15 (i64 1)]) ?_ rfl
       refine CW.regionF [.is (true) (.agg #[(i64 0), (i64 0), (str []), (str []), (.bool false), (i64 0)]), .is (true) (i64 q312), .any, .is (true) (i64 q312), .is (true) (i64 1)] hS316 tryz_mixed [2, 5, 8, 10, 12, 14, 15] rfl (by decide +kernel) (.cons ?_ (.cons ?_ (.cons ?_ (.cons ?_ (.cons ?_ (.nil)))))) ?_
       ·intro LL w318 M319 hle321 hS320 hK hD
        refine RL.u (.build (vs := []) (v := (.agg #[(i64 0), (i64 0), (str []), (str []), (.bool false), (i64 0)])) .nil (fun w => by kernel_rfl)) rfl ?_
        exact RL.nil (RA.next fun a hs => ⟨_, _, Mem.le.refl _, hS320, hs, _, _, rfl, rfl, rfl⟩)
       ·intro LL w322 M323 hle325 hS324 hK hD
        refine RL.u (.loadB1 (v := (i64 q312)) hS324 extEq (i := 0) rfl (.t (hK _ _ rfl)) Tryz.isAgg3 rfl) rfl ?_
        exact RL.nil (RA.next fun a hs => ⟨_, _, Mem.le.refl _, hS324, hs, _, _, rfl, rfl, rfl⟩)
       ·intro LL w326 M327 hle329 hS328 hK hD
        obtain ⟨g77, v77, hl77, rfl, rfl⟩ := hD 0 (by decide +kernel)
        obtain ⟨g77, v77, hl77, rfl, rfl⟩ := hD 0 (by decide +kernel)
        refine RL.st hS328 (i := 2) rfl (.t (hK _ _ rfl)) (.t hl77) Tryz.sizeOf31 rfl rfl rfl (Hs' := [.box b8 [(i64 q312)] 3, .box b2 [(str s)] 9, .box b5 [(i64 0), (i64 0), (str []), (str []), (.bool false), (i64 0)] 31]) rfl rfl (fun w330 hS331 => ?_)
        exact RL.nil (RA.next fun a hs => ⟨_, _, Mem.le.refl _, hS331, hs, rfl⟩)
       ·intro LL w332 M333 hle335 hS334 hK hD
        obtain ⟨g78, v78, hl78, rfl, rfl⟩ := hD 1 (by decide +kernel)
        obtain ⟨g78, v78, hl78, rfl, rfl⟩ := hD 1 (by decide +kernel)
        refine RL.u (.assign (.t hl78)) rfl ?_
        exact RL.nil (RA.next fun a hs => ⟨_, _, Mem.le.refl _, hS334, hs, _, _, rfl, rfl, rfl⟩)
       ·intro LL w336 M337 hle339 hS338 hK hD
        refine RL.u (.assign .c) rfl ?_
        exact RL.nil (RA.next fun a hs => ⟨_, _, Mem.le.refl _, hS338, hs, _, _, rfl, rfl, rfl⟩)
       intro w340 M341 LL hle343 hS342 hK hD
       obtain ⟨g3, v3, hl3, rfl, rfl⟩ := hD 3 (by decide)
       obtain ⟨g4, v4, hl4, rfl, rfl⟩ := hD 4 (by decide)
       refine slots_sub (E := [Y 2 (.pointer (some ⟨b5, 0, none⟩)), Y 3 (i64 q312), Y 4 (i64 1), Y 5 (.pointer (some ⟨b8, 0, none⟩)), Y 8 (.bool c13), Y 10 (str (Eng.sub (s) (q12) (q19))), Y 12 (i64 0), Y 14 (str (Eng.sub (s) (q305) (q312))), Y 15 (i64 1)]) (.cons (hK _ _ rfl) (.cons (hl3) (.cons (hl4) (.cons (hK _ _ rfl) (.cons (hK _ _ rfl) (.cons (hK _ _ rfl) (.cons (hK _ _ rfl) (.cons (hK _ _ rfl) (.cons (hK _ _ rfl) .nil))))))))) ?_
       replace hS342 : St w (fun _ _ => none) w340 M341 [.box b8 [(i64 q312)] 3, .box b2 [(str s)] 9, .box b5 [(i64 0), (i64 0), (str []), (str []), (.bool false), (i64 0)] 31] := hS342
       refine (CW.at [Y 2 (.pointer (some ⟨b5, 0, none⟩)), Y 3 (i64 q312), Y 4 (i64 1)] rfl ?_)
       refine CW.ret (retR3 (P := Tryz.prog) (fn := Tryz.f32) (R := fun e w' => e = .returned (.tuple #[(ndV ((read1 s).1)), (i64 ((read1 s).2.1)), (i64 ((read1 s).2.2))]) ∧ Ext w w') rfl (.boxN hS342 (i := 2) rfl rfl Tryz.isAgg31 Tryz.sizeOf31) (show RV _ _ _ (.tmp _) _ from rfl) (show RV _ _ _ (.tmp _) _ from rfl) ?_)
       refine ⟨?_, hS342.low⟩
       have hr : read1 s = (⟨0, 0, [], [], false, 0⟩, q312, 1) := by
        unfold read1 rest1 exp1 fin1
        simp only [← hq12, ← hc13, ← hq19, ← hq28, ← hc29, ← hq243, ← hc244, ← hq250, ← hc251, ← hq305, ← hc306, ← hq312, hb1, hg27', hb2, hb14, hb15, hb18, hb1n, if_true, if_false, reduceIte, or_self, or_true, true_or, and_self, and_true, true_and, false_and, and_false, or_false, false_or, Bool.false_eq_true, not_true_eq_false, not_false_eq_true, beq_self_eq_true]
        all_goals first | rfl | (exfalso; simp [hg27', hb2, hb14, hb15, hb18] at hb1; done) | (exfalso; simp [hb1, hb2, hb14, hb15, hb18] at hg27'; done) | (exfalso; simp [hb1, hg27', hb14, hb15, hb18] at hb2; done) | (exfalso; simp [hb1, hg27', hb2, hb15, hb18] at hb14; done) | (exfalso; simp [hb1, hg27', hb2, hb14, hb18] at hb15; done) | (exfalso; simp [hb1, hg27', hb2, hb14, hb15] at hb18; done)
       rw [hr]
      ·try simp only [zb, hb1, hg27', hb2, hb14, hb15, and_true, true_and, false_or, or_false, not_true_eq_false, not_false_eq_true] at hb18
       refine CW.skip (CW.at [Y 2 (.pointer (some ⟨b5, 0, none⟩)), Y 8 (.bool c13), Y 10 (str (Eng.sub (s) (q12) (q19))), Y 12 (i64 0), Y 14 (str (Eng.sub (s) (q305) (q312))), Y 15 (i64 1)] rfl ?_)
       refine CW.sr ?_
       refine RL.m rfl rfl ?_
       refine RL.callE hS316 .none Tryz.call15 (.cons (.t rfl) (.cons .c .nil)) (fun _ => (trimLeft_c (Eng.sub (s) (q305) (q312)) ([48]) _ (by decide) (cut_low (by decide)))) rfl (fun w344 hS345 => ?_)
       refine RL.a rfl rfl ?_
       refine RL.nil (CW.at [Y 2 (.pointer (some ⟨b5, 0, none⟩)), Y 8 (.bool c13), Y 10 (str (Eng.sub (s) (q12) (q19))), Y 12 (i64 0), Y 14 (str (dropZ (Eng.sub (s) (q305) (q312)))), Y 15 (i64 1)] rfl ?_)
       refine CW.seq ?_
       refine CW.sr ?_
       refine RL.m rfl rfl (RL.u (.lenS (.t rfl) Tryz.underlying9) rfl (RL.u (.gtr (.t rfl) .c) rfl ?_))
       refine RL.nil (CW.at [Y 2 (.pointer (some ⟨b5, 0, none⟩)), Y 8 (.bool c13), Y 10 (str (Eng.sub (s) (q12) (q19))), Y 12 (i64 0), Y 14 (str (dropZ (Eng.sub (s) (q305) (q312)))), Y 15 (i64 1), Y 83 (.bool (decide ((6) < (len (dropZ (Eng.sub (s) (q305) (q312)))))))] rfl ?_)
       refine CW.cond rfl (fun hb19 => ?_) (fun hb19 => ?_)
       ·try simp only [zb, hb1, hg27', hb2, hb14, hb15, hb18, and_true, true_and, false_or, or_false, not_true_eq_false, not_false_eq_true] at hb19
        refine CW.sr ?_
        refine RL.u (.build (vs := []) (v := (.agg #[(i64 0), (i64 0), (str []), (str []), (.bool false), (i64 0)])) .nil (fun w => by kernel_rfl)) rfl ?_
        refine RL.st hS345 (i := 2) rfl (.t rfl) (.t rfl) Tryz.sizeOf31 rfl rfl rfl (Hs' := [.box b8 [(i64 q312)] 3, .box b2 [(str s)] 9, .box b5 [(i64 0), (i64 0), (str []), (str []), (.bool false), (i64 0)] 31]) rfl rfl (fun w346 hS347 => ?_)
        refine RL.u (.assign .c) rfl (RL.u (.assign .c) rfl ?_)
        refine RL.nil (CW.at [Y 2 (.pointer (some ⟨b5, 0, none⟩)), Y 3 (i64 0), Y 4 (i64 2)] rfl ?_)
        refine CW.ret (retR3 (P := Tryz.prog) (fn := Tryz.f32) (R := fun e w' => e = .returned (.tuple #[(ndV ((read1 s).1)), (i64 ((read1 s).2.1)), (i64 ((read1 s).2.2))]) ∧ Ext w w') rfl (.boxN hS347 (i := 2) rfl rfl Tryz.isAgg31 Tryz.sizeOf31) (show RV _ _ _ (.tmp _) _ from rfl) (show RV _ _ _ (.tmp _) _ from rfl) ?_)
        refine ⟨?_, hS347.low⟩
        have hr : read1 s = (⟨0, 0, [], [], false, 0⟩, 0, 2) := by
         unfold read1 rest1 exp1 fin1
         simp only [← hq12, ← hc13, ← hq19, ← hq28, ← hc29, ← hq243, ← hc244, ← hq250, ← hc251, ← hq305, ← hc306, ← hq312, hb1, hg27', hb2, hb14, hb15, hb18, hb19, hb1n, if_true, if_false, reduceIte, or_self, or_true, true_or, and_self, and_true, true_and, false_and, and_false, or_false, false_or, Bool.false_eq_true, not_true_eq_false, not_false_eq_true, beq_self_eq_true]
         all_goals first | rfl | (exfalso; simp [hg27', hb2, hb14, hb15, hb18, hb19] at hb1; done) | (exfalso; simp [hb1, hb2, hb14, hb15, hb18, hb19] at hg27'; done) | (exfalso; simp [hb1, hg27', hb14, hb15, hb18, hb19] at hb2; done) | (exfalso; simp [hb1, hg27', hb2, hb15, hb18, hb19] at hb14; done) | (exfalso; simp [hb1, hg27', hb2, hb14, hb18, hb19] at hb15; done) | (exfalso; simp [hb1, hg27', hb2, hb14, hb15, hb19] at hb18; done) | (exfalso; simp [hb1, hg27', hb2, hb14, hb15, hb18] at hb19; done)
        rw [hr]
       ·try simp only [zb, hb1, hg27', hb2, hb14, hb15, hb18, and_true, true_and, false_or, or_false, not_true_eq_false, not_false_eq_true] at hb19
        refine CW.skip (CW.at [Y 2 (.pointer (some ⟨b5, 0, none⟩)), Y 8 (.bool c13), Y 10 (str (Eng.sub (s) (q12) (q19))), Y 12 (i64 0), Y 14 (str (dropZ (Eng.sub (s) (q305) (q312)))), Y 15 (i64 1)] rfl ?_)
        refine CW.sr ?_
        refine RL.m rfl rfl (RL.u (.sadd .c (.t rfl) (fun _ => by first | omega | (simp only [len_app, len_cons, len_nil] at *; omega))) rfl ?_)
        have hv348 := atoi_figs (l := dropZ (Eng.sub (s) (q305) (q312))) (by first | (refine figs_drop ?_; subst_vars; exact figs_run (by omega)) | (intro b hb; cases hb)) (by omega)
        refine RL.callE hS345 .none Tryz.call66 (.cons (.t rfl) .nil) (fun _ => (atoi_c ([48] ++ (dropZ (Eng.sub (s) (q305) (q312)))) (decVal (dropZ (Eng.sub (s) (q305) (q312)))) _ (by simp only [len_app, len_cons, len_nil] at *; omega) hv348.1)) rfl (fun w349 hS350 => ?_)
        refine RL.m rfl rfl (RL.u (.ex (.t rfl) rfl) rfl (RL.u (.ex (.t rfl) rfl) rfl (RL.a rfl rfl (RL.a rfl rfl ?_))))
        refine RL.nil (CW.at [Y 2 (.pointer (some ⟨b5, 0, none⟩)), Y 8 (.bool c13), Y 10 (str (Eng.sub (s) (q12) (q19))), Y 12 (i64 0), Y 15 (i64 1), Y 16 (i64 (decVal (dropZ (Eng.sub (s) (q305) (q312)))))] rfl ?_)
        refine CW.sr ?_
        refine RL.m rfl rfl (RL.m rfl rfl (RL.m rfl rfl (RL.m rfl rfl (RL.m rfl rfl (RL.u (.mul (.t rfl) (.t rfl) (fun _ => by first | omega | (simp only [len_app, len_cons, len_nil] at *; omega))) rfl ?_)))))
        refine RL.u (.add (.t rfl) (.t rfl) (fun _ => by first | omega | (simp only [len_app, len_cons, len_nil] at *; omega))) rfl ?_
        refine RL.callE hS350 .none Tryz.call67 (.cons (.t rfl) (.cons (.t rfl) (.cons (.t rfl) .nil))) (fun _ => (make_c (c13) (Eng.sub (s) (q12) (q19)) ((0) + ((1) * (decVal (dropZ (Eng.sub (s) (q305) (q312)))))) _ (hg.low hS350.low) (by first | omega | (simp only [len_app] at *; omega)))) rfl (fun w351 hS352 => ?_)
        refine RL.m rfl rfl (RL.u (.ex (.t rfl) rfl) rfl (RL.u (.ex (.t rfl) rfl) rfl ?_))
        refine RL.alloc hS352 Tryz.zeroValue31 rfl (fun w353 b354 hS355 => ?_)
        replace hS355 : St w (fun _ _ => none) w353 (fun _ _ => none) [.box b354 [(i64 0), (i64 0), (str []), (str []), (.bool false), (i64 0)] 31, .box b8 [(i64 q312)] 3, .box b2 [(str s)] 9, .box b5 [(i64 0), (i64 0), (str []), (str []), (.bool false), (i64 0)] 31] := hS355
        refine RL.st hS355 (i := 0) rfl (.t rfl) (.t rfl) Tryz.sizeOf31 rfl rfl rfl (Hs' := [.box b354 (ndC ((mk1 (c13) (Eng.sub (s) (q12) (q19)) ((0) + ((1) * (decVal (dropZ (Eng.sub (s) (q305) (q312))))))).1) []) 31, .box b8 [(i64 q312)] 3, .box b2 [(str s)] 9, .box b5 [(i64 0), (i64 0), (str []), (str []), (.bool false), (i64 0)] 31]) rfl rfl (fun w356 hS357 => ?_)
        refine RL.a rfl rfl ?_
        refine RL.nil (CW.at [Y 2 (.pointer (some ⟨b5, 0, none⟩)), Y 18 (.pointer (some ⟨b354, 0, none⟩)), Y 19 (i64 ((mk1 (c13) (Eng.sub (s) (q12) (q19)) ((0) + ((1) * (decVal (dropZ (Eng.sub (s) (q305) (q312))))))).2))] rfl ?_)
        refine CW.sr ?_
        refine RL.u (.loadBN (vs := (ndC ((mk1 (c13) (Eng.sub (s) (q12) (q19)) ((0) + ((1) * (decVal (dropZ (Eng.sub (s) (q305) (q312))))))).1) [])) hS357 extEq (i := 0) rfl (.t rfl) Tryz.isAgg31 Tryz.sizeOf31 rfl rfl) rfl (RL.m rfl rfl ?_)
        refine RL.st hS357 (i := 3) rfl (.t rfl) (.t rfl) Tryz.sizeOf31 rfl rfl rfl (Hs' := [.box b354 (ndC ((mk1 (c13) (Eng.sub (s) (q12) (q19)) ((0) + ((1) * (decVal (dropZ (Eng.sub (s) (q305) (q312))))))).1) []) 31, .box b8 [(i64 q312)] 3, .box b2 [(str s)] 9, .box b5 (ndC ((mk1 (c13) (Eng.sub (s) (q12) (q19)) ((0) + ((1) * (decVal (dropZ (Eng.sub (s) (q305) (q312))))))).1) []) 31]) rfl rfl (fun w358 hS359 => ?_)
        refine RL.u (.assign .c) rfl (RL.a rfl rfl ?_)
        refine RL.nil (CW.at [Y 2 (.pointer (some ⟨b5, 0, none⟩)), Y 3 (i64 0), Y 4 (i64 ((mk1 (c13) (Eng.sub (s) (q12) (q19)) ((0) + ((1) * (decVal (dropZ (Eng.sub (s) (q305) (q312))))))).2))] rfl ?_)
        refine CW.ret (retR3 (P := Tryz.prog) (fn := Tryz.f32) (R := fun e w' => e = .returned (.tuple #[(ndV ((read1 s).1)), (i64 ((read1 s).2.1)), (i64 ((read1 s).2.2))]) ∧ Ext w w') rfl (.boxN hS359 (i := 3) rfl rfl Tryz.isAgg31 Tryz.sizeOf31) (show RV _ _ _ (.tmp _) _ from rfl) (show RV _ _ _ (.tmp _) _ from rfl) ?_)
        refine ⟨?_, hS359.low⟩
        have hr : read1 s = ((mk1 (c13) (Eng.sub (s) (q12) (q19)) ((0) + ((1) * (decVal (dropZ (Eng.sub (s) (q305) (q312))))))).1, 0, (mk1 (c13) (Eng.sub (s) (q12) (q19)) ((0) + ((1) * (decVal (dropZ (Eng.sub (s) (q305) (q312))))))).2) := by
         unfold read1 rest1 exp1 fin1
         simp only [← hq12, ← hc13, ← hq19, ← hq28, ← hc29, ← hq243, ← hc244, ← hq250, ← hc251, ← hq305, ← hc306, ← hq312, hb1, hg27', hb2, hb14, hb15, hb18, hb19, hb1n, if_true, if_false, reduceIte, or_self, or_true, true_or, and_self, and_true, true_and, false_and, and_false, or_false, false_or, Bool.false_eq_true, not_true_eq_false, not_false_eq_true, beq_self_eq_true]
         all_goals first | rfl | (exfalso; simp [hg27', hb2, hb14, hb15, hb18, hb19] at hb1; done) | (exfalso; simp [hb1, hb2, hb14, hb15, hb18, hb19] at hg27'; done) | (exfalso; simp [hb1, hg27', hb14, hb15, hb18, hb19] at hb2; done) | (exfalso; simp [hb1, hg27', hb2, hb15, hb18, hb19] at hb14; done) | (exfalso; simp [hb1, hg27', hb2, hb14, hb18, hb19] at hb15; done) | (exfalso; simp [hb1, hg27', hb2, hb14, hb15, hb19] at hb18; done) | (exfalso; simp [hb1, hg27', hb2, hb14, hb15, hb18] at hb19; done)
        rw [hr]
    ·try simp only [zb, hb1, hg27', hb2, and_true, true_and, false_or, or_false, not_true_eq_false, not_false_eq_true] at hb14
     refine CW.skip (CW.at [Y 1 (.pointer (some ⟨b2, 0, none⟩)), Y 2 (.pointer (some ⟨b5, 0, none⟩)), Y 5 (.pointer (some ⟨b8, 0, none⟩)), Y 8 (.bool c13), Y 10 (str (Eng.sub (s) (q12) (q19))), Y 11 (.bool ((Eng.sub (s) (q12) (q19)) == ([]))), Y 12 (i64 0), Y 14 (str []), Y 15 (i64 1)] rfl ?_)
     refine CW.seq ?_
     refine CW.sr ?_
     refine RL.m rfl rfl (RL.m rfl rfl (RL.v (.neg rfl rfl) (.loadB1 (v := (i64 q243)) hS248 extEq (i := 0) rfl (.t rfl) Tryz.isAgg3 rfl) rfl (RL.v (.neg rfl rfl) (.loadB1 (v := (str s)) hS248 extEq (i := 1) rfl (.t rfl) Tryz.isAgg9 rfl) rfl (RL.v (.neg rfl rfl) (.lenS (.g rfl (fun _ => hg27)) Tryz.underlying9) rfl (RL.v (.neg rfl rfl) (.lss (.g rfl (fun _ => hg27)) (.g rfl (fun _ => hg27))) rfl ?_)))))
     refine RL.u (.or (.t rfl) (.g rfl (fun _ => hg27))) rfl ?_
     refine RL.nil (CW.at [Y 2 (.pointer (some ⟨b5, 0, none⟩)), Y 5 (.pointer (some ⟨b8, 0, none⟩)), Y 8 (.bool c13), Y 10 (str (Eng.sub (s) (q12) (q19))), Y 12 (i64 0), Y 14 (str []), Y 15 (i64 1), Y 76 (.bool (((Eng.sub (s) (q12) (q19)) == ([])) || (decide ((q243) < (len (s))))))] rfl ?_)
     refine CW.cond rfl (fun hb20 => ?_) (fun hb20 => ?_)
     ·try simp only [zb, hb1, hg27', hb2, hb14, and_true, true_and, false_or, or_false, not_true_eq_false, not_false_eq_true] at hb20
      refine CW.seq ?_
      refine CW.weaken [2, 5, 8, 10, 12, 14, 15] (L' := [Y 2 (.pointer (some ⟨b5, 0, none⟩)), Y 5 (.pointer (some ⟨b8, 0, none⟩)), Y 8 (.bool c13), Y 10 (str (Eng.sub (s) (q12) (q19))), Y 12 (i64 0), Y 14 (str []), Y 15 (i64 1)]) ?_ rfl
      refine CW.regionF [.is (true) (.agg #[(i64 0), (i64 0), (str []), (str []), (.bool false), (i64 0)]), .is (true) (i64 q243), .any, .is (true) (i64 q243), .is (true) (i64 1)] hS248 tryz_mixed [2, 5, 8, 10, 12, 14, 15] rfl (by decide +kernel) (.cons ?_ (.cons ?_ (.cons ?_ (.cons ?_ (.cons ?_ (.nil)))))) ?_
      ·intro LL w360 M361 hle363 hS362 hK hD
       refine RL.u (.build (vs := []) (v := (.agg #[(i64 0), (i64 0), (str []), (str []), (.bool false), (i64 0)])) .nil (fun w => by kernel_rfl)) rfl ?_
       exact RL.nil (RA.next fun a hs => ⟨_, _, Mem.le.refl _, hS362, hs, _, _, rfl, rfl, rfl⟩)
      ·intro LL w364 M365 hle367 hS366 hK hD
       refine RL.u (.loadB1 (v := (i64 q243)) hS366 extEq (i := 0) rfl (.t (hK _ _ rfl)) Tryz.isAgg3 rfl) rfl ?_
       exact RL.nil (RA.next fun a hs => ⟨_, _, Mem.le.refl _, hS366, hs, _, _, rfl, rfl, rfl⟩)
      ·intro LL w368 M369 hle371 hS370 hK hD
       obtain ⟨g77, v77, hl77, rfl, rfl⟩ := hD 0 (by decide +kernel)
       obtain ⟨g77, v77, hl77, rfl, rfl⟩ := hD 0 (by decide +kernel)
       refine RL.st hS370 (i := 2) rfl (.t (hK _ _ rfl)) (.t hl77) Tryz.sizeOf31 rfl rfl rfl (Hs' := [.box b8 [(i64 q243)] 3, .box b2 [(str s)] 9, .box b5 [(i64 0), (i64 0), (str []), (str []), (.bool false), (i64 0)] 31]) rfl rfl (fun w372 hS373 => ?_)
       exact RL.nil (RA.next fun a hs => ⟨_, _, Mem.le.refl _, hS373, hs, rfl⟩)
      ·intro LL w374 M375 hle377 hS376 hK hD
       obtain ⟨g78, v78, hl78, rfl, rfl⟩ := hD 1 (by decide +kernel)
       obtain ⟨g78, v78, hl78, rfl, rfl⟩ := hD 1 (by decide +kernel)
       refine RL.u (.assign (.t hl78)) rfl ?_
       exact RL.nil (RA.next fun a hs => ⟨_, _, Mem.le.refl _, hS376, hs, _, _, rfl, rfl, rfl⟩)
      ·intro LL w378 M379 hle381 hS380 hK hD
       refine RL.u (.assign .c) rfl ?_
       exact RL.nil (RA.next fun a hs => ⟨_, _, Mem.le.refl _, hS380, hs, _, _, rfl, rfl, rfl⟩)
      intro w382 M383 LL hle385 hS384 hK hD
      obtain ⟨g3, v3, hl3, rfl, rfl⟩ := hD 3 (by decide)
      obtain ⟨g4, v4, hl4, rfl, rfl⟩ := hD 4 (by decide)
      refine slots_sub (E := [Y 2 (.pointer (some ⟨b5, 0, none⟩)), Y 3 (i64 q243), Y 4 (i64 1), Y 5 (.pointer (some ⟨b8, 0, none⟩)), Y 8 (.bool c13), Y 10 (str (Eng.sub (s) (q12) (q19))), Y 12 (i64 0), Y 14 (str []), Y 15 (i64 1)]) (.cons (hK _ _ rfl) (.cons (hl3) (.cons (hl4) (.cons (hK _ _ rfl) (.cons (hK _ _ rfl) (.cons (hK _ _ rfl) (.cons (hK _ _ rfl) (.cons (hK _ _ rfl) (.cons (hK _ _ rfl) .nil))))))))) ?_
      replace hS384 : St w (fun _ _ => none) w382 M383 [.box b8 [(i64 q243)] 3, .box b2 [(str s)] 9, .box b5 [(i64 0), (i64 0), (str []), (str []), (.bool false), (i64 0)] 31] := hS384
      refine (CW.at [Y 2 (.pointer (some ⟨b5, 0, none⟩)), Y 3 (i64 q243), Y 4 (i64 1)] rfl ?_)
      refine CW.ret (retR3 (P := Tryz.prog) (fn := Tryz.f32) (R := fun e w' => e = .returned (.tuple #[(ndV ((read1 s).1)), (i64 ((read1 s).2.1)), (i64 ((read1 s).2.2))]) ∧ Ext w w') rfl (.boxN hS384 (i := 2) rfl rfl Tryz.isAgg31 Tryz.sizeOf31) (show RV _ _ _ (.tmp _) _ from rfl) (show RV _ _ _ (.tmp _) _ from rfl) ?_)
      refine ⟨?_, hS384.low⟩
      have hr : read1 s = (⟨0, 0, [], [], false, 0⟩, q243, 1) := by
       unfold read1 rest1 exp1 fin1
       simp only [← hq12, ← hc13, ← hq19, ← hq28, ← hc29, ← hq243, ← hc244, hb1, hg27', hb2, hb14, hb20, hb1n, if_true, if_false, reduceIte, or_self, or_true, true_or, and_self, and_true, true_and, false_and, and_false, or_false, false_or, Bool.false_eq_true, not_true_eq_false, not_false_eq_true, beq_self_eq_true]
       all_goals first | rfl | (exfalso; simp [hg27', hb2, hb14, hb20] at hb1; done) | (exfalso; simp [hb1, hb2, hb14, hb20] at hg27'; done) | (exfalso; simp [hb1, hg27', hb14, hb20] at hb2; done) | (exfalso; simp [hb1, hg27', hb2, hb20] at hb14; done) | (exfalso; simp [hb1, hg27', hb2, hb14] at hb20; done)
      rw [hr]
     ·try simp only [zb, hb1, hg27', hb2, hb14, and_true, true_and, false_or, or_false, not_true_eq_false, not_false_eq_true] at hb20
      refine CW.skip (CW.at [Y 2 (.pointer (some ⟨b5, 0, none⟩)), Y 8 (.bool c13), Y 10 (str (Eng.sub (s) (q12) (q19))), Y 12 (i64 0), Y 14 (str []), Y 15 (i64 1)] rfl ?_)
      refine CW.sr ?_
      refine RL.m rfl rfl ?_
      refine RL.callE hS248 .none Tryz.call15 (.cons (.t rfl) (.cons .c .nil)) (fun _ => (trimLeft_c ([]) ([48]) _ (by decide) (cut_low (by decide)))) rfl (fun w386 hS387 => ?_)
      refine RL.a rfl rfl ?_
      refine RL.nil (CW.at [Y 2 (.pointer (some ⟨b5, 0, none⟩)), Y 8 (.bool c13), Y 10 (str (Eng.sub (s) (q12) (q19))), Y 12 (i64 0), Y 14 (str (dropZ ([]))), Y 15 (i64 1)] rfl ?_)
      refine CW.seq ?_
      refine CW.sr ?_
      refine RL.m rfl rfl (RL.u (.lenS (.t rfl) Tryz.underlying9) rfl (RL.u (.gtr (.t rfl) .c) rfl ?_))
      refine RL.nil (CW.at [Y 2 (.pointer (some ⟨b5, 0, none⟩)), Y 8 (.bool c13), Y 10 (str (Eng.sub (s) (q12) (q19))), Y 12 (i64 0), Y 14 (str (dropZ ([]))), Y 15 (i64 1), Y 83 (.bool (decide ((6) < (len (dropZ ([]))))))] rfl ?_)
      refine CW.cond rfl (fun hb21 => ?_) (fun hb21 => ?_)
      ·try simp only [zb, hb1, hg27', hb2, hb14, hb20, and_true, true_and, false_or, or_false, not_true_eq_false, not_false_eq_true] at hb21
       refine CW.sr ?_
       refine RL.u (.build (vs := []) (v := (.agg #[(i64 0), (i64 0), (str []), (str []), (.bool false), (i64 0)])) .nil (fun w => by kernel_rfl)) rfl ?_
       refine RL.st hS387 (i := 2) rfl (.t rfl) (.t rfl) Tryz.sizeOf31 rfl rfl rfl (Hs' := [.box b8 [(i64 q243)] 3, .box b2 [(str s)] 9, .box b5 [(i64 0), (i64 0), (str []), (str []), (.bool false), (i64 0)] 31]) rfl rfl (fun w388 hS389 => ?_)
       refine RL.u (.assign .c) rfl (RL.u (.assign .c) rfl ?_)
       refine RL.nil (CW.at [Y 2 (.pointer (some ⟨b5, 0, none⟩)), Y 3 (i64 0), Y 4 (i64 2)] rfl ?_)
       refine CW.ret (retR3 (P := Tryz.prog) (fn := Tryz.f32) (R := fun e w' => e = .returned (.tuple #[(ndV ((read1 s).1)), (i64 ((read1 s).2.1)), (i64 ((read1 s).2.2))]) ∧ Ext w w') rfl (.boxN hS389 (i := 2) rfl rfl Tryz.isAgg31 Tryz.sizeOf31) (show RV _ _ _ (.tmp _) _ from rfl) (show RV _ _ _ (.tmp _) _ from rfl) ?_)
       refine ⟨?_, hS389.low⟩
       have hr : read1 s = (⟨0, 0, [], [], false, 0⟩, 0, 2) := by
        unfold read1 rest1 exp1 fin1
        simp only [← hq12, ← hc13, ← hq19, ← hq28, ← hc29, ← hq243, ← hc244, hb1, hg27', hb2, hb14, hb20, hb21, hb1n, if_true, if_false, reduceIte, or_self, or_true, true_or, and_self, and_true, true_and, false_and, and_false, or_false, false_or, Bool.false_eq_true, not_true_eq_false, not_false_eq_true, beq_self_eq_true]
        all_goals first | rfl | (exfalso; simp [hg27', hb2, hb14, hb20, hb21] at hb1; done) | (exfalso; simp [hb1, hb2, hb14, hb20, hb21] at hg27'; done) | (exfalso; simp [hb1, hg27', hb14, hb20, hb21] at hb2; done) | (exfalso; simp [hb1, hg27', hb2, hb20, hb21] at hb14; done) | (exfalso; simp [hb1, hg27', hb2, hb14, hb21] at hb20; done) | (exfalso; simp [hb1, hg27', hb2, hb14, hb20] at hb21; done)
       rw [hr]
      ·try simp only [zb, hb1, hg27', hb2, hb14, hb20, and_true, true_and, false_or, or_false, not_true_eq_false, not_false_eq_true] at hb21
       refine CW.skip (CW.at [Y 2 (.pointer (some ⟨b5, 0, none⟩)), Y 8 (.bool c13), Y 10 (str (Eng.sub (s) (q12) (q19))), Y 12 (i64 0), Y 14 (str (dropZ ([]))), Y 15 (i64 1)] rfl ?_)
       refine CW.sr ?_
       refine RL.m rfl rfl (RL.u (.sadd .c (.t rfl) (fun _ => by first | omega | (simp only [len_app, len_cons, len_nil] at *; omega))) rfl ?_)
       have hv390 := atoi_figs (l := dropZ ([])) (by first | (refine figs_drop ?_; subst_vars; exact figs_run (by omega)) | (intro b hb; cases hb)) (by omega)
       refine RL.callE hS387 .none Tryz.call66 (.cons (.t rfl) .nil) (fun _ => (atoi_c ([48] ++ (dropZ ([]))) (decVal (dropZ ([]))) _ (by simp only [len_app, len_cons, len_nil] at *; omega) hv390.1)) rfl (fun w391 hS392 => ?_)
       refine RL.m rfl rfl (RL.u (.ex (.t rfl) rfl) rfl (RL.u (.ex (.t rfl) rfl) rfl (RL.a rfl rfl (RL.a rfl rfl ?_))))
       refine RL.nil (CW.at [Y 2 (.pointer (some ⟨b5, 0, none⟩)), Y 8 (.bool c13), Y 10 (str (Eng.sub (s) (q12) (q19))), Y 12 (i64 0), Y 15 (i64 1), Y 16 (i64 (decVal (dropZ ([]))))] rfl ?_)
       refine CW.sr ?_
       refine RL.m rfl rfl (RL.m rfl rfl (RL.m rfl rfl (RL.m rfl rfl (RL.m rfl rfl (RL.u (.mul (.t rfl) (.t rfl) (fun _ => by first | omega | (simp only [len_app, len_cons, len_nil] at *; omega))) rfl ?_)))))
       refine RL.u (.add (.t rfl) (.t rfl) (fun _ => by first | omega | (simp only [len_app, len_cons, len_nil] at *; omega))) rfl ?_
       refine RL.callE hS392 .none Tryz.call67 (.cons (.t rfl) (.cons (.t rfl) (.cons (.t rfl) .nil))) (fun _ => (make_c (c13) (Eng.sub (s) (q12) (q19)) ((0) + ((1) * (decVal (dropZ ([]))))) _ (hg.low hS392.low) (by first | omega | (simp only [len_app] at *; omega)))) rfl (fun w393 hS394 => ?_)
       refine RL.m rfl rfl (RL.u (.ex (.t rfl) rfl) rfl (RL.u (.ex (.t rfl) rfl) rfl ?_))
       refine RL.alloc hS394 Tryz.zeroValue31 rfl (fun w395 b396 hS397 => ?_)
       replace hS397 : St w (fun _ _ => none) w395 (fun _ _ => none) [.box b396 [(i64 0), (i64 0), (str []), (str []), (.bool false), (i64 0)] 31, .box b8 [(i64 q243)] 3, .box b2 [(str s)] 9, .box b5 [(i64 0), (i64 0), (str []), (str []), (.bool false), (i64 0)] 31] := hS397
       refine RL.st hS397 (i := 0) rfl (.t rfl) (.t rfl) Tryz.sizeOf31 rfl rfl rfl (Hs' := [.box b396 (ndC ((mk1 (c13) (Eng.sub (s) (q12) (q19)) ((0) + ((1) * (decVal (dropZ ([])))))).1) []) 31, .box b8 [(i64 q243)] 3, .box b2 [(str s)] 9, .box b5 [(i64 0), (i64 0), (str []), (str []), (.bool false), (i64 0)] 31]) rfl rfl (fun w398 hS399 => ?_)
       refine RL.a rfl rfl ?_
       refine RL.nil (CW.at [Y 2 (.pointer (some ⟨b5, 0, none⟩)), Y 18 (.pointer (some ⟨b396, 0, none⟩)), Y 19 (i64 ((mk1 (c13) (Eng.sub (s) (q12) (q19)) ((0) + ((1) * (decVal (dropZ ([])))))).2))] rfl ?_)
       refine CW.sr ?_
       refine RL.u (.loadBN (vs := (ndC ((mk1 (c13) (Eng.sub (s) (q12) (q19)) ((0) + ((1) * (decVal (dropZ ([])))))).1) [])) hS399 extEq (i := 0) rfl (.t rfl) Tryz.isAgg31 Tryz.sizeOf31 rfl rfl) rfl (RL.m rfl rfl ?_)
       refine RL.st hS399 (i := 3) rfl (.t rfl) (.t rfl) Tryz.sizeOf31 rfl rfl rfl (Hs' := [.box b396 (ndC ((mk1 (c13) (Eng.sub (s) (q12) (q19)) ((0) + ((1) * (decVal (dropZ ([])))))).1) []) 31, .box b8 [(i64 q243)] 3, .box b2 [(str s)] 9, .box b5 (ndC ((mk1 (c13) (Eng.sub (s) (q12) (q19)) ((0) + ((1) * (decVal (dropZ ([])))))).1) []) 31]) rfl rfl (fun w400 hS401 => ?_)
       refine RL.u (.assign .c) rfl (RL.a rfl rfl ?_)
       refine RL.nil (CW.at [Y 2 (.pointer (some ⟨b5, 0, none⟩)), Y 3 (i64 0), Y 4 (i64 ((mk1 (c13) (Eng.sub (s) (q12) (q19)) ((0) + ((1) * (decVal (dropZ ([])))))).2))] rfl ?_)
       refine CW.ret (retR3 (P := Tryz.prog) (fn := Tryz.f32) (R := fun e w' => e = .returned (.tuple #[(ndV ((read1 s).1)), (i64 ((read1 s).2.1)), (i64 ((read1 s).2.2))]) ∧ Ext w w') rfl (.boxN hS401 (i := 3) rfl rfl Tryz.isAgg31 Tryz.sizeOf31) (show RV _ _ _ (.tmp _) _ from rfl) (show RV _ _ _ (.tmp _) _ from rfl) ?_)
       refine ⟨?_, hS401.low⟩
       have hr : read1 s = ((mk1 (c13) (Eng.sub (s) (q12) (q19)) ((0) + ((1) * (decVal (dropZ ([])))))).1, 0, (mk1 (c13) (Eng.sub (s) (q12) (q19)) ((0) + ((1) * (decVal (dropZ ([])))))).2) := by
        unfold read1 rest1 exp1 fin1
        simp only [← hq12, ← hc13, ← hq19, ← hq28, ← hc29, ← hq243, ← hc244, hb1, hg27', hb2, hb14, hb20, hb21, hb1n, if_true, if_false, reduceIte, or_self, or_true, true_or, and_self, and_true, true_and, false_and, and_false, or_false, false_or, Bool.false_eq_true, not_true_eq_false, not_false_eq_true, beq_self_eq_true]
        all_goals first | rfl | (exfalso; simp [hg27', hb2, hb14, hb20, hb21] at hb1; done) | (exfalso; simp [hb1, hb2, hb14, hb20, hb21] at hg27'; done) | (exfalso; simp [hb1, hg27', hb14, hb20, hb21] at hb2; done) | (exfalso; simp [hb1, hg27', hb2, hb20, hb21] at hb14; done) | (exfalso; simp [hb1, hg27', hb2, hb14, hb21] at hb20; done) | (exfalso; simp [hb1, hg27', hb2, hb14, hb20] at hb21; done)
       rw [hr]
  ·have hg27' := hg27
   try simp only [zb] at hg27'
   refine RL.u (.and (.t rfl) (.g rfl (fun h => by simp_all))) rfl ?_
   refine RL.nil (CW.at [Y 1 (.pointer (some ⟨b2, 0, none⟩)), Y 2 (.pointer (some ⟨b5, 0, none⟩)), Y 5 (.pointer (some ⟨b8, 0, none⟩)), Y 6 (.func (.func 62) #[] #[(.pointer (some ⟨b8, 0, none⟩)), (.pointer (some ⟨b2, 0, none⟩))]), Y 7 (.func (.func 64) #[] #[(.pointer (some ⟨b8, 0, none⟩)), (.pointer (some ⟨b2, 0, none⟩))]), Y 8 (.bool c13), Y 10 (str (Eng.sub (s) (q12) (q19))), Y 11 (.bool ((Eng.sub (s) (q12) (q19)) == ([]))), Y 12 (i64 0), Y 45 (.bool ((!((Eng.sub (s) (q12) (q19)) == ([]))) && (false)))] rfl ?_)
   refine CW.cond rfl (fun h => by simp at h) (fun hb22 => ?_)
   try simp only [zb, Bool.and_false] at hb22
   refine CW.skip (CW.at [Y 1 (.pointer (some ⟨b2, 0, none⟩)), Y 2 (.pointer (some ⟨b5, 0, none⟩)), Y 5 (.pointer (some ⟨b8, 0, none⟩)), Y 6 (.func (.func 62) #[] #[(.pointer (some ⟨b8, 0, none⟩)), (.pointer (some ⟨b2, 0, none⟩))]), Y 7 (.func (.func 64) #[] #[(.pointer (some ⟨b8, 0, none⟩)), (.pointer (some ⟨b2, 0, none⟩))]), Y 8 (.bool c13), Y 10 (str (Eng.sub (s) (q12) (q19))), Y 11 (.bool ((Eng.sub (s) (q12) (q19)) == ([]))), Y 12 (i64 0)] rfl ?_)
   refine CW.sr ?_
   refine RL.u (.assign .c) rfl (RL.u (.assign .c) rfl ?_)
   refine RL.nil (CW.at [Y 1 (.pointer (some ⟨b2, 0, none⟩)), Y 2 (.pointer (some ⟨b5, 0, none⟩)), Y 5 (.pointer (some ⟨b8, 0, none⟩)), Y 6 (.func (.func 62) #[] #[(.pointer (some ⟨b8, 0, none⟩)), (.pointer (some ⟨b2, 0, none⟩))]), Y 7 (.func (.func 64) #[] #[(.pointer (some ⟨b8, 0, none⟩)), (.pointer (some ⟨b2, 0, none⟩))]), Y 8 (.bool c13), Y 10 (str (Eng.sub (s) (q12) (q19))), Y 11 (.bool ((Eng.sub (s) (q12) (q19)) == ([]))), Y 12 (i64 0), Y 14 (str []), Y 15 (i64 1)] rfl ?_)
   refine CW.seq ?_
   refine CW.sr ?_
   refine RL.m rfl rfl (RL.u (.not (.t rfl)) rfl (RL.m rfl rfl (RL.v (.pos rfl rfl) (.move (.t rfl)) rfl ?_)))
   refine RL.split (.pos rfl rfl) rfl (fun h => by rw [hg27] at h; cases h) (fun _ => ?_)
   refine RL.u (.and (.t rfl) (.g rfl (fun h => by simp_all))) rfl ?_
   refine RL.nil (CW.at [Y 1 (.pointer (some ⟨b2, 0, none⟩)), Y 2 (.pointer (some ⟨b5, 0, none⟩)), Y 5 (.pointer (some ⟨b8, 0, none⟩)), Y 6 (.func (.func 62) #[] #[(.pointer (some ⟨b8, 0, none⟩)), (.pointer (some ⟨b2, 0, none⟩))]), Y 7 (.func (.func 64) #[] #[(.pointer (some ⟨b8, 0, none⟩)), (.pointer (some ⟨b2, 0, none⟩))]), Y 8 (.bool c13), Y 10 (str (Eng.sub (s) (q12) (q19))), Y 11 (.bool ((Eng.sub (s) (q12) (q19)) == ([]))), Y 12 (i64 0), Y 14 (str []), Y 15 (i64 1), Y 61 (.bool ((!((Eng.sub (s) (q12) (q19)) == ([]))) && (false)))] rfl ?_)
   refine CW.cond rfl (fun h => by simp at h) (fun hb23 => ?_)
   try simp only [zb, Bool.and_false] at hb23
   refine CW.skip (CW.at [Y 1 (.pointer (some ⟨b2, 0, none⟩)), Y 2 (.pointer (some ⟨b5, 0, none⟩)), Y 5 (.pointer (some ⟨b8, 0, none⟩)), Y 8 (.bool c13), Y 10 (str (Eng.sub (s) (q12) (q19))), Y 11 (.bool ((Eng.sub (s) (q12) (q19)) == ([]))), Y 12 (i64 0), Y 14 (str []), Y 15 (i64 1)] rfl ?_)
   refine CW.seq ?_
   refine CW.sr ?_
   refine RL.m rfl rfl (RL.m rfl rfl (RL.v (.neg rfl rfl) (.loadB1 (v := (i64 q19)) hS23 extEq (i := 0) rfl (.t rfl) Tryz.isAgg3 rfl) rfl (RL.v (.neg rfl rfl) (.loadB1 (v := (str s)) hS23 extEq (i := 1) rfl (.t rfl) Tryz.isAgg9 rfl) rfl (RL.v (.neg rfl rfl) (.lenS (.g rfl (fun h => h)) Tryz.underlying9) rfl (RL.v (.neg rfl rfl) (.lss (.g rfl (fun h => h)) (.g rfl (fun h => h))) rfl ?_)))))
   refine RL.u (.or (.t rfl) (.g rfl (fun h => h))) rfl ?_
   refine RL.nil (CW.at [Y 2 (.pointer (some ⟨b5, 0, none⟩)), Y 5 (.pointer (some ⟨b8, 0, none⟩)), Y 8 (.bool c13), Y 10 (str (Eng.sub (s) (q12) (q19))), Y 12 (i64 0), Y 14 (str []), Y 15 (i64 1), Y 76 (.bool (((Eng.sub (s) (q12) (q19)) == ([])) || (decide ((q19) < (len (s))))))] rfl ?_)
   refine CW.cond rfl (fun hb24 => ?_) (fun hb24 => ?_)
   ·try simp only [zb, hb1, hg27', and_true, true_and, false_or, or_false, not_true_eq_false, not_false_eq_true] at hb24
    refine CW.seq ?_
    refine CW.weaken [2, 5, 8, 10, 12, 14, 15] (L' := [Y 2 (.pointer (some ⟨b5, 0, none⟩)), Y 5 (.pointer (some ⟨b8, 0, none⟩)), Y 8 (.bool c13), Y 10 (str (Eng.sub (s) (q12) (q19))), Y 12 (i64 0), Y 14 (str []), Y 15 (i64 1)]) ?_ rfl
    refine CW.regionF [.is (true) (.agg #[(i64 0), (i64 0), (str []), (str []), (.bool false), (i64 0)]), .is (true) (i64 q19), .any, .is (true) (i64 q19), .is (true) (i64 1)] hS23 tryz_mixed [2, 5, 8, 10, 12, 14, 15] rfl (by decide +kernel) (.cons ?_ (.cons ?_ (.cons ?_ (.cons ?_ (.cons ?_ (.nil)))))) ?_
    ·intro LL w402 M403 hle405 hS404 hK hD
     refine RL.u (.build (vs := []) (v := (.agg #[(i64 0), (i64 0), (str []), (str []), (.bool false), (i64 0)])) .nil (fun w => by kernel_rfl)) rfl ?_
     exact RL.nil (RA.next fun a hs => ⟨_, _, Mem.le.refl _, hS404, hs, _, _, rfl, rfl, rfl⟩)
    ·intro LL w406 M407 hle409 hS408 hK hD
     refine RL.u (.loadB1 (v := (i64 q19)) hS408 extEq (i := 0) rfl (.t (hK _ _ rfl)) Tryz.isAgg3 rfl) rfl ?_
     exact RL.nil (RA.next fun a hs => ⟨_, _, Mem.le.refl _, hS408, hs, _, _, rfl, rfl, rfl⟩)
    ·intro LL w410 M411 hle413 hS412 hK hD
     obtain ⟨g77, v77, hl77, rfl, rfl⟩ := hD 0 (by decide +kernel)
     obtain ⟨g77, v77, hl77, rfl, rfl⟩ := hD 0 (by decide +kernel)
     refine RL.st hS412 (i := 2) rfl (.t (hK _ _ rfl)) (.t hl77) Tryz.sizeOf31 rfl rfl rfl (Hs' := [.box b8 [(i64 q19)] 3, .box b2 [(str s)] 9, .box b5 [(i64 0), (i64 0), (str []), (str []), (.bool false), (i64 0)] 31]) rfl rfl (fun w414 hS415 => ?_)
     exact RL.nil (RA.next fun a hs => ⟨_, _, Mem.le.refl _, hS415, hs, rfl⟩)
    ·intro LL w416 M417 hle419 hS418 hK hD
     obtain ⟨g78, v78, hl78, rfl, rfl⟩ := hD 1 (by decide +kernel)
     obtain ⟨g78, v78, hl78, rfl, rfl⟩ := hD 1 (by decide +kernel)
     refine RL.u (.assign (.t hl78)) rfl ?_
     exact RL.nil (RA.next fun a hs => ⟨_, _, Mem.le.refl _, hS418, hs, _, _, rfl, rfl, rfl⟩)
    ·intro LL w420 M421 hle423 hS422 hK hD
     refine RL.u (.assign .c) rfl ?_
     exact RL.nil (RA.next fun a hs => ⟨_, _, Mem.le.refl _, hS422, hs, _, _, rfl, rfl, rfl⟩)
    intro w424 M425 LL hle427 hS426 hK hD
    obtain ⟨g3, v3, hl3, rfl, rfl⟩ := hD 3 (by decide)
    obtain ⟨g4, v4, hl4, rfl, rfl⟩ := hD 4 (by decide)
    refine slots_sub (E := [Y 2 (.pointer (some ⟨b5, 0, none⟩)), Y 3 (i64 q19), Y 4 (i64 1), Y 5 (.pointer (some ⟨b8, 0, none⟩)), Y 8 (.bool c13), Y 10 (str (Eng.sub (s) (q12) (q19))), Y 12 (i64 0), Y 14 (str []), Y 15 (i64 1)]) (.cons (hK _ _ rfl) (.cons (hl3) (.cons (hl4) (.cons (hK _ _ rfl) (.cons (hK _ _ rfl) (.cons (hK _ _ rfl) (.cons (hK _ _ rfl) (.cons (hK _ _ rfl) (.cons (hK _ _ rfl) .nil))))))))) ?_
    replace hS426 : St w (fun _ _ => none) w424 M425 [.box b8 [(i64 q19)] 3, .box b2 [(str s)] 9, .box b5 [(i64 0), (i64 0), (str []), (str []), (.bool false), (i64 0)] 31] := hS426
    refine (CW.at [Y 2 (.pointer (some ⟨b5, 0, none⟩)), Y 3 (i64 q19), Y 4 (i64 1)] rfl ?_)
    refine CW.ret (retR3 (P := Tryz.prog) (fn := Tryz.f32) (R := fun e w' => e = .returned (.tuple #[(ndV ((read1 s).1)), (i64 ((read1 s).2.1)), (i64 ((read1 s).2.2))]) ∧ Ext w w') rfl (.boxN hS426 (i := 2) rfl rfl Tryz.isAgg31 Tryz.sizeOf31) (show RV _ _ _ (.tmp _) _ from rfl) (show RV _ _ _ (.tmp _) _ from rfl) ?_)
    refine ⟨?_, hS426.low⟩
    have hr : read1 s = (⟨0, 0, [], [], false, 0⟩, q19, 1) := by
     unfold read1 rest1 exp1 fin1
     simp only [← hq12, ← hc13, ← hq19, hb1, hg27', hb24, hb1n, if_true, if_false, reduceIte, or_self, or_true, true_or, and_self, and_true, true_and, false_and, and_false, or_false, false_or, Bool.false_eq_true, not_true_eq_false, not_false_eq_true, beq_self_eq_true]
     all_goals first | rfl | (exfalso; simp [hg27', hb24] at hb1; done) | (exfalso; simp [hb1, hb24] at hg27'; done) | (exfalso; simp [hb1, hg27'] at hb24; done)
    rw [hr]
   ·try simp only [zb, hb1, hg27', and_true, true_and, false_or, or_false, not_true_eq_false, not_false_eq_true] at hb24
    refine CW.skip (CW.at [Y 2 (.pointer (some ⟨b5, 0, none⟩)), Y 8 (.bool c13), Y 10 (str (Eng.sub (s) (q12) (q19))), Y 12 (i64 0), Y 14 (str []), Y 15 (i64 1)] rfl ?_)
    refine CW.sr ?_
    refine RL.m rfl rfl ?_
    refine RL.callE hS23 .none Tryz.call15 (.cons (.t rfl) (.cons .c .nil)) (fun _ => (trimLeft_c ([]) ([48]) _ (by decide) (cut_low (by decide)))) rfl (fun w428 hS429 => ?_)
    refine RL.a rfl rfl ?_
    refine RL.nil (CW.at [Y 2 (.pointer (some ⟨b5, 0, none⟩)), Y 8 (.bool c13), Y 10 (str (Eng.sub (s) (q12) (q19))), Y 12 (i64 0), Y 14 (str (dropZ ([]))), Y 15 (i64 1)] rfl ?_)
    refine CW.seq ?_
    refine CW.sr ?_
    refine RL.m rfl rfl (RL.u (.lenS (.t rfl) Tryz.underlying9) rfl (RL.u (.gtr (.t rfl) .c) rfl ?_))
    refine RL.nil (CW.at [Y 2 (.pointer (some ⟨b5, 0, none⟩)), Y 8 (.bool c13), Y 10 (str (Eng.sub (s) (q12) (q19))), Y 12 (i64 0), Y 14 (str (dropZ ([]))), Y 15 (i64 1), Y 83 (.bool (decide ((6) < (len (dropZ ([]))))))] rfl ?_)
    refine CW.cond rfl (fun hb25 => ?_) (fun hb25 => ?_)
    ·try simp only [zb, hb1, hg27', hb24, and_true, true_and, false_or, or_false, not_true_eq_false, not_false_eq_true] at hb25
     refine CW.sr ?_
     refine RL.u (.build (vs := []) (v := (.agg #[(i64 0), (i64 0), (str []), (str []), (.bool false), (i64 0)])) .nil (fun w => by kernel_rfl)) rfl ?_
     refine RL.st hS429 (i := 2) rfl (.t rfl) (.t rfl) Tryz.sizeOf31 rfl rfl rfl (Hs' := [.box b8 [(i64 q19)] 3, .box b2 [(str s)] 9, .box b5 [(i64 0), (i64 0), (str []), (str []), (.bool false), (i64 0)] 31]) rfl rfl (fun w430 hS431 => ?_)
     refine RL.u (.assign .c) rfl (RL.u (.assign .c) rfl ?_)
     refine RL.nil (CW.at [Y 2 (.pointer (some ⟨b5, 0, none⟩)), Y 3 (i64 0), Y 4 (i64 2)] rfl ?_)
     refine CW.ret (retR3 (P := Tryz.prog) (fn := Tryz.f32) (R := fun e w' => e = .returned (.tuple #[(ndV ((read1 s).1)), (i64 ((read1 s).2.1)), (i64 ((read1 s).2.2))]) ∧ Ext w w') rfl (.boxN hS431 (i := 2) rfl rfl Tryz.isAgg31 Tryz.sizeOf31) (show RV _ _ _ (.tmp _) _ from rfl) (show RV _ _ _ (.tmp _) _ from rfl) ?_)
     refine ⟨?_, hS431.low⟩
     have hr : read1 s = (⟨0, 0, [], [], false, 0⟩, 0, 2) := by
      unfold read1 rest1 exp1 fin1
      simp only [← hq12, ← hc13, ← hq19, hb1, hg27', hb24, hb25, hb1n, if_true, if_false, reduceIte, or_self, or_true, true_or, and_self, and_true, true_and, false_and, and_false, or_false, false_or, Bool.false_eq_true, not_true_eq_false, not_false_eq_true, beq_self_eq_true]
      all_goals first | rfl | (exfalso; simp [hg27', hb24, hb25] at hb1; done) | (exfalso; simp [hb1, hb24, hb25] at hg27'; done) | (exfalso; simp [hb1, hg27', hb25] at hb24; done) | (exfalso; simp [hb1, hg27', hb24] at hb25; done)
     rw [hr]
    ·try simp only [zb, hb1, hg27', hb24, and_true, true_and, false_or, or_false, not_true_eq_false, not_false_eq_true] at hb25
     refine CW.skip (CW.at [Y 2 (.pointer (some ⟨b5, 0, none⟩)), Y 8 (.bool c13), Y 10 (str (Eng.sub (s) (q12) (q19))), Y 12 (i64 0), Y 14 (str (dropZ ([]))), Y 15 (i64 1)] rfl ?_)
     refine CW.sr ?_
     refine RL.m rfl rfl (RL.u (.sadd .c (.t rfl) (fun _ => by first | omega | (simp only [len_app, len_cons, len_nil] at *; omega))) rfl ?_)
     have hv432 := atoi_figs (l := dropZ ([])) (by first | (refine figs_drop ?_; subst_vars; exact figs_run (by omega)) | (intro b hb; cases hb)) (by omega)
     refine RL.callE hS429 .none Tryz.call66 (.cons (.t rfl) .nil) (fun _ => (atoi_c ([48] ++ (dropZ ([]))) (decVal (dropZ ([]))) _ (by simp only [len_app, len_cons, len_nil] at *; omega) hv432.1)) rfl (fun w433 hS434 => ?_)
     refine RL.m rfl rfl (RL.u (.ex (.t rfl) rfl) rfl (RL.u (.ex (.t rfl) rfl) rfl (RL.a rfl rfl (RL.a rfl rfl ?_))))
     refine RL.nil (CW.at [Y 2 (.pointer (some ⟨b5, 0, none⟩)), Y 8 (.bool c13), Y 10 (str (Eng.sub (s) (q12) (q19))), Y 12 (i64 0), Y 15 (i64 1), Y 16 (i64 (decVal (dropZ ([]))))] rfl ?_)
     refine CW.sr ?_
     refine RL.m rfl rfl (RL.m rfl rfl (RL.m rfl rfl (RL.m rfl rfl (RL.m rfl rfl (RL.u (.mul (.t rfl) (.t rfl) (fun _ => by first | omega | (simp only [len_app, len_cons, len_nil] at *; omega))) rfl ?_)))))
     refine RL.u (.add (.t rfl) (.t rfl) (fun _ => by first | omega | (simp only [len_app, len_cons, len_nil] at *; omega))) rfl ?_
     refine RL.callE hS434 .none Tryz.call67 (.cons (.t rfl) (.cons (.t rfl) (.cons (.t rfl) .nil))) (fun _ => (make_c (c13) (Eng.sub (s) (q12) (q19)) ((0) + ((1) * (decVal (dropZ ([]))))) _ (hg.low hS434.low) (by first | omega | (simp only [len_app] at *; omega)))) rfl (fun w435 hS436 => ?_)
     refine RL.m rfl rfl (RL.u (.ex (.t rfl) rfl) rfl (RL.u (.ex (.t rfl) rfl) rfl ?_))
     refine RL.alloc hS436 Tryz.zeroValue31 rfl (fun w437 b438 hS439 => ?_)
     replace hS439 : St w (fun _ _ => none) w437 (fun _ _ => none) [.box b438 [(i64 0), (i64 0), (str []), (str []), (.bool false), (i64 0)] 31, .box b8 [(i64 q19)] 3, .box b2 [(str s)] 9, .box b5 [(i64 0), (i64 0), (str []), (str []), (.bool false), (i64 0)] 31] := hS439
     refine RL.st hS439 (i := 0) rfl (.t rfl) (.t rfl) Tryz.sizeOf31 rfl rfl rfl (Hs' := [.box b438 (ndC ((mk1 (c13) (Eng.sub (s) (q12) (q19)) ((0) + ((1) * (decVal (dropZ ([])))))).1) []) 31, .box b8 [(i64 q19)] 3, .box b2 [(str s)] 9, .box b5 [(i64 0), (i64 0), (str []), (str []), (.bool false), (i64 0)] 31]) rfl rfl (fun w440 hS441 => ?_)
     refine RL.a rfl rfl ?_
     refine RL.nil (CW.at [Y 2 (.pointer (some ⟨b5, 0, none⟩)), Y 18 (.pointer (some ⟨b438, 0, none⟩)), Y 19 (i64 ((mk1 (c13) (Eng.sub (s) (q12) (q19)) ((0) + ((1) * (decVal (dropZ ([])))))).2))] rfl ?_)
     refine CW.sr ?_
     refine RL.u (.loadBN (vs := (ndC ((mk1 (c13) (Eng.sub (s) (q12) (q19)) ((0) + ((1) * (decVal (dropZ ([])))))).1) [])) hS441 extEq (i := 0) rfl (.t rfl) Tryz.isAgg31 Tryz.sizeOf31 rfl rfl) rfl (RL.m rfl rfl ?_)
     refine RL.st hS441 (i := 3) rfl (.t rfl) (.t rfl) Tryz.sizeOf31 rfl rfl rfl (Hs' := [.box b438 (ndC ((mk1 (c13) (Eng.sub (s) (q12) (q19)) ((0) + ((1) * (decVal (dropZ ([])))))).1) []) 31, .box b8 [(i64 q19)] 3, .box b2 [(str s)] 9, .box b5 (ndC ((mk1 (c13) (Eng.sub (s) (q12) (q19)) ((0) + ((1) * (decVal (dropZ ([])))))).1) []) 31]) rfl rfl (fun w442 hS443 => ?_)
     refine RL.u (.assign .c) rfl (RL.a rfl rfl ?_)
     refine RL.nil (CW.at [Y 2 (.pointer (some ⟨b5, 0, none⟩)), Y 3 (i64 0), Y 4 (i64 ((mk1 (c13) (Eng.sub (s) (q12) (q19)) ((0) + ((1) * (decVal (dropZ ([])))))).2))] rfl ?_)
     refine CW.ret (retR3 (P := Tryz.prog) (fn := Tryz.f32) (R := fun e w' => e = .returned (.tuple #[(ndV ((read1 s).1)), (i64 ((read1 s).2.1)), (i64 ((read1 s).2.2))]) ∧ Ext w w') rfl (.boxN hS443 (i := 3) rfl rfl Tryz.isAgg31 Tryz.sizeOf31) (show RV _ _ _ (.tmp _) _ from rfl) (show RV _ _ _ (.tmp _) _ from rfl) ?_)
     refine ⟨?_, hS443.low⟩
     have hr : read1 s = ((mk1 (c13) (Eng.sub (s) (q12) (q19)) ((0) + ((1) * (decVal (dropZ ([])))))).1, 0, (mk1 (c13) (Eng.sub (s) (q12) (q19)) ((0) + ((1) * (decVal (dropZ ([])))))).2) := by
      unfold read1 rest1 exp1 fin1
      simp only [← hq12, ← hc13, ← hq19, hb1, hg27', hb24, hb25, hb1n, if_true, if_false, reduceIte, or_self, or_true, true_or, and_self, and_true, true_and, false_and, and_false, or_false, false_or, Bool.false_eq_true, not_true_eq_false, not_false_eq_true, beq_self_eq_true]
      all_goals first | rfl | (exfalso; simp [hg27', hb24, hb25] at hb1; done) | (exfalso; simp [hb1, hb24, hb25] at hg27'; done) | (exfalso; simp [hb1, hg27', hb25] at hb24; done) | (exfalso; simp [hb1, hg27', hb24] at hb25; done)
     rw [hr]

end Go.Proofs.YthdialbnlnjgpaaGreatDoor
