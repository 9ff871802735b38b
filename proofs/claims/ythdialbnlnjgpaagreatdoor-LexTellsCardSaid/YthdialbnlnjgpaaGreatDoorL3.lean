import Derived.Test.YthdialbnlnjgpaaGreatDoorEngL
import Derived.Laws.BitsLemmas
import Derived.Test.YthdialbnlnjgpaaGreatDoorPure
import Derived.Test.YthdialbnlnjgpaaGreatDoorProg
import Derived.Test.YthdialbnlnjgpaaGreatDoorL2
set_option linter.unusedVariables false
set_option linter.unusedSimpArgs false
namespace Go.Proofs.YthdialbnlnjgpaaGreatDoor
open Go.Eng

/- (*loupe/lex.marks).at -/
set_option maxRecDepth 100000 in
theorem at_c {w wv : World} {M0 M : Mem} {Rs : List HO} (b : Nat) (cs : List Value) (X : HO) (s : Str) (hS : St w M0 wv M (.box b cs 51 :: X :: Rs)) (hm : MarkOk M cs X) (hg : Gl w) (h0 : 0 < len s) (hb : len s ≤ 1099511627776) :
  Calls Tryz.prog 31 [(.pointer (some ⟨b, 0, none⟩)), (str s)].toArray wv fun e w' => ∃ v, e = .returned v ∧ ∃ cs' X' M', v = str (markP s) ∧ MarkOk M' cs' X' ∧ St w M0 w' M' (.box b cs' 51 :: X' :: Rs) ∧ M.le M' := by
 refine CW.enter Tryz.func31 rfl Tryz.ntmps31 (Nat.le_of_ble_eq_true rfl) ?_
 refine CW.weaken [0, 1] (L' := [Y 0 (.pointer (some ⟨b, 0, none⟩)), Y 1 (str s)]) ?_ rfl
 refine CW.sr ?_
 refine RL.box (v := (.pointer (some ⟨b, 0, none⟩))) hS (.t rfl) rfl (fun w1 b2 hS3 => ?_)
 replace hS3 : St w M0 w1 M (.box b2 [(.pointer (some ⟨b, 0, none⟩))] 72 :: .box b cs 51 :: X :: Rs) := hS3
 refine RL.u (.assign .c) rfl ?_
 refine RL.nil (CW.at [Y 1 (str s), Y 2 (.pointer (some ⟨b2, 0, none⟩))] rfl ?_)
 refine CW.sr ?_
 refine RL.u (.loadB1 (v := (.pointer (some ⟨b, 0, none⟩))) hS3 extEq (i := 0) rfl (.t rfl) Tryz.isAgg72 rfl) rfl (RL.u (.nilP (.t rfl)) rfl (RL.u (.fldA (q := ⟨b, 0, none⟩) (.t rfl) (fun w => by kernel_rfl)) rfl (RL.u (.makeFunc .nil (.cons (.t rfl) .nil)) rfl ?_)))
 replace hS3 : St w M0 w1 M (X :: .box b2 [(.pointer (some ⟨b, 0, none⟩))] 72 :: .box b cs 51 :: Rs) := hS3.front 2 rfl rfl
 replace hS3 : St w M0 w1 M (.box b cs 51 :: X :: .box b2 [(.pointer (some ⟨b, 0, none⟩))] 72 :: Rs) := hS3.front 2 rfl rfl
 replace hS3 : St w M0 w1 M (.box b2 [(.pointer (some ⟨b, 0, none⟩))] 72 :: .box b cs 51 :: X :: Rs) := hS3.front 2 rfl rfl
 refine RL.callP Tryz.call59 (.cons (.t rfl) (.cons (.t rfl) .nil)) (do_c (Rs := (Rs)) b2 b cs X hS3 (by assumption) hg) rfl ?_
 rintro v7 w8 ⟨mb4, ml5, mc6, M9, rfl, hMM_mb4, hS10, hle11⟩
 replace hS10 : St w M0 w8 M9 (.box b2 [(.pointer (some ⟨b, 0, none⟩))] 72 :: .box b [(.int .u32 1), (.int .i32 0), (.int .u32 0), (.map (some mb4))] 51 :: .raw mb4 (mobj .u8 ml5 mc6) :: Rs) := hS10
 refine RL.nil (CW.at [Y 1 (str s), Y 2 (.pointer (some ⟨b2, 0, none⟩))] rfl ?_)
 refine CW.seq ?_
 refine CW.seq ?_
 refine CW.regionD hS10 tryz_mixed (by decide +kernel) ?_
 refine RQ.v .none (.loadB1 (v := (.pointer (some ⟨b, 0, none⟩))) hS10 (fun _ h => h) (i := 0) rfl (.t rfl) Tryz.isAgg72 rfl) rfl ?_
 refine RQ.v .none (.nilP (.t rfl)) rfl ?_
 refine RQ.v .none (.fldA (q := ⟨b, 3, none⟩) (.t rfl) (fun w => by kernel_rfl)) rfl ?_
 refine RQ.v .none (.loadB1 (v := (.map (some mb4))) hS10 (fun _ h => h) (i := 1) rfl (.t rfl) Tryz.isAgg49 rfl) rfl ?_
 refine RQ.v .none (.move (.t rfl)) rfl ?_
 refine RQ.v .none (.idxS (.t rfl) .c Tryz.underlying9 (fun _ => by omega)) rfl ?_
 obtain ⟨mv, hmv, hmsl⟩ := hMM_mb4 (byteAt (s) (0))
 refine RQ.v .none (.lookup (k := .u8) (v := (mv)) hS10 (fun _ h => h) (i := 2) rfl (.t rfl) (.t rfl) Tryz.underlying49 Tryz.underlying5 Tryz.zeroValue60 hmv) rfl ?_
 refine RQ.v .none (.lenT hmsl (.t rfl) ⟨_, Tryz.underlying60⟩) rfl ?_
 refine RQ.v .none (.move .c) rfl ?_
 refine RQ.nil (fun a hs w12 hS13 => CW.at [Y 1 (str s), Y 18 (mv), Y 19 (i64 (len (marksOf (byteAt (s) (0))))), Y 20 (i64 0)] rfl ?_ a hs)
 refine CW.block ?_
 refine CW.loop (σ := Int) (fun k => [Y 1 (str s), Y 18 (mv), Y 19 (i64 (len (marksOf (byteAt (s) (0))))), Y 20 (i64 k)]) (fun k wl => St w M0 wl M9 (.box b2 [(.pointer (some ⟨b, 0, none⟩))] 72 :: .box b [(.int .u32 1), (.int .i32 0), (.int .u32 0), (.map (some mb4))] 51 :: .raw mb4 (mobj .u8 ml5 mc6) :: Rs) ∧ 0 ≤ k ∧ k ≤ len (marksOf (byteAt s 0)) ∧ NoneTo s (marksOf (byteAt s 0)) k) (fun k => (len (marksOf (byteAt s 0)) - k).toNat) (0) [1, 18, 19, 20] rfl ?_ ?_
 ·refine ⟨hS13, ?_⟩; exact ⟨by omega, len_nonneg _, rfl⟩
 ·rintro k wl ⟨hS14, hk0, hk1, hN⟩
  have hll := hmsl.le
  change len (marksOf (byteAt s 0)) ≤ 9223372036854775807 at hll
  refine CW.sr ?_
  refine RL.u (.lss (.t rfl) (.t rfl)) rfl ?_
  refine RL.nil (CW.at [Y 1 (str s), Y 18 (mv), Y 19 (i64 (len (marksOf (byteAt (s) (0))))), Y 20 (i64 k), Y 21 (.bool (decide ((k) < (len (marksOf (byteAt (s) (0)))))))] rfl ?_)
  refine CW.seq ?_
  refine CW.cond rfl (fun hb1 => ?_) (fun hb1 => ?_)
  ·try simp only [zb] at hb1
   refine CW.skip (CW.at [Y 1 (str s), Y 18 (mv), Y 19 (i64 (len (marksOf (byteAt (s) (0))))), Y 20 (i64 k)] rfl ?_)
   refine CW.seq ?_
   refine CW.block ?_
   refine CW.sr ?_
   refine RL.u (.idxT hmsl (.t rfl) (.t rfl) Tryz.underlying60 Tryz.sizeOf9 (fun _ => by omega)) rfl (RL.u (.loadE1 (f := strC) (i := k) (j := 0) (u := (str (at' (marksOf (byteAt (s) (0))) (k)))) hS14 extEq hmsl strC_len (.t rfl) Tryz.isAgg9 (fun _ => by omega) rfl rfl) rfl (RL.a rfl rfl ?_))
   refine RL.nil (CW.at [Y 1 (str s), Y 6 (str (at' (marksOf (byteAt (s) (0))) (k))), Y 18 (mv), Y 19 (i64 (len (marksOf (byteAt (s) (0))))), Y 20 (i64 k)] rfl ?_)
   refine CW.sr ?_
   refine RL.m rfl rfl (RL.m rfl rfl ?_)
   refine RL.callS .none Tryz.call29 (.cons (.t rfl) (.cons (.t rfl) .nil)) (fun _ => (hasPrefix_c (s) (at' (marksOf (byteAt (s) (0))) (k)) _)) rfl ?_
   refine RL.nil (CW.at [Y 1 (str s), Y 6 (str (at' (marksOf (byteAt (s) (0))) (k))), Y 18 (mv), Y 19 (i64 (len (marksOf (byteAt (s) (0))))), Y 20 (i64 k), Y 26 (.bool (Lib.hasPrefix (s) (at' (marksOf (byteAt (s) (0))) (k))))] rfl ?_)
   refine CW.cond rfl (fun hb2 => ?_) (fun hb2 => ?_)
   ·try simp only [zb] at hb2
    refine CW.sr ?_
    refine RL.m rfl rfl (RL.a rfl rfl ?_)
    refine RL.nil (CW.at [Y 4 (str (at' (marksOf (byteAt (s) (0))) (k)))] rfl ?_)
    refine CW.ret (ret1 (P := Tryz.prog) (fn := Tryz.f31) (R := fun e w' => ∃ v, e = .returned v ∧ ∃ cs' X' M', v = str (markP s) ∧ MarkOk M' cs' X' ∧ St w M0 w' M' (.box b cs' 51 :: X' :: Rs) ∧ M.le M') rfl rfl ?_)
    replace hS14 : St w M0 wl M9 (.box b [(.int .u32 1), (.int .i32 0), (.int .u32 0), (.map (some mb4))] 51 :: .raw mb4 (mobj .u8 ml5 mc6) :: Rs) := hS14.erase 0 rfl
    replace hS14 : St w M0 wl M9 (.raw mb4 (mobj .u8 ml5 mc6) :: .box b [(.int .u32 1), (.int .i32 0), (.int .u32 0), (.map (some mb4))] 51 :: Rs) := hS14.front 1 rfl rfl
    replace hS14 : St w M0 wl M9 (.box b [(.int .u32 1), (.int .i32 0), (.int .u32 0), (.map (some mb4))] 51 :: .raw mb4 (mobj .u8 ml5 mc6) :: Rs) := hS14.front 1 rfl rfl
    have hq : markP s = at' (marksOf (byteAt s 0)) k := by rw [markP_of, hN.found hk0 hb1 hb2]
    exact ⟨_, rfl, _, _, _, by rw [hq], .inr ⟨_, _, _, rfl, rfl, hMM_mb4⟩, hS14, (hle11)⟩
   ·try simp only [zb] at hb2
    refine CW.skip (CW.at [Y 1 (str s), Y 18 (mv), Y 19 (i64 (len (marksOf (byteAt (s) (0))))), Y 20 (i64 k)] rfl ?_)
    refine CW.region ?_
    refine RL.u (.add (.t rfl) .c (fun _ => by omega)) rfl (RL.m rfl rfl ?_)
    refine RL.nil fun a hs => Exists.intro (k + 1) ⟨hs.keep [1, 18, 19, 20], ?_, ?_⟩
    ·refine ⟨hS14, ?_⟩
     exact ⟨by omega, by omega, hN.step hk0 hb1 (by simpa using hb2)⟩
    ·show Int.toNat _ < Int.toNat _; omega
  ·try simp only [zb] at hb1
   refine CW.exit (CW.at [] rfl ?_)
   refine CW.sr ?_
   refine RL.u (.assign .c) rfl ?_
   refine RL.nil (CW.at [Y 4 (str [])] rfl ?_)
   refine CW.ret (ret1 (P := Tryz.prog) (fn := Tryz.f31) (R := fun e w' => ∃ v, e = .returned v ∧ ∃ cs' X' M', v = str (markP s) ∧ MarkOk M' cs' X' ∧ St w M0 w' M' (.box b cs' 51 :: X' :: Rs) ∧ M.le M') rfl rfl ?_)
   replace hS14 : St w M0 wl M9 (.box b [(.int .u32 1), (.int .i32 0), (.int .u32 0), (.map (some mb4))] 51 :: .raw mb4 (mobj .u8 ml5 mc6) :: Rs) := hS14.erase 0 rfl
   replace hS14 : St w M0 wl M9 (.raw mb4 (mobj .u8 ml5 mc6) :: .box b [(.int .u32 1), (.int .i32 0), (.int .u32 0), (.map (some mb4))] 51 :: Rs) := hS14.front 1 rfl rfl
   replace hS14 : St w M0 wl M9 (.box b [(.int .u32 1), (.int .i32 0), (.int .u32 0), (.map (some mb4))] 51 :: .raw mb4 (mobj .u8 ml5 mc6) :: Rs) := hS14.front 1 rfl rfl
   have hq : markP s = [] := by rw [markP_of, hN.none' (by omega)]
   exact ⟨_, rfl, _, _, _, by rw [hq], .inr ⟨_, _, _, rfl, rfl, hMM_mb4⟩, hS14, (hle11)⟩

end Go.Proofs.YthdialbnlnjgpaaGreatDoor
