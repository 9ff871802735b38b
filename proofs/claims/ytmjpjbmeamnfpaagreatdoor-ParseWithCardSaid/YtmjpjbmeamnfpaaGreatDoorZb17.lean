/-
  strings.Builder: its parts, as they lie in the engine's memory. copyCheck's walk is turned from the kit's (Builder1), to this program's body.
-/
import Derived.Test.YtmjpjbmeamnfpaaGreatDoorZb4
import Derived.Laws.BitsLemmas
import Derived.Test.YtmjpjbmeamnfpaaGreatDoorZb3
import Derived.Test.YtmjpjbmeamnfpaaGreatDoorProg
import Derived.Test.YtmjpjbmeamnfpaaGreatDoorZb14
import Derived.Test.YtmjpjbmeamnfpaaGreatDoorZb10
import Derived.Test.YtmjpjbmeamnfpaaGreatDoorZb5
import Derived.Test.YtmjpjbmeamnfpaaGreatDoorZb16
import Derived.Shelf.Strings.Builder1
import Derived.Shelf.Strings.BuilderRune
set_option linter.unusedVariables false
set_option linter.unusedSimpArgs false
set_option maxRecDepth 100000
namespace Go.Proofs.YtmjpjbmeamnfpaaGreatDoor
open Go.Eng

/- loupe/num.isFigure -/
theorem isFigure_c (r : Int) (w : World)  :
  Calls Tryz.prog 117 [(.int .i32 r)].toArray w fun e w' => e = .returned (.bool (isFig r)) ∧ w' = w := by
 refine CW.enter1 Tryz.func117 rfl Tryz.ntmps117 (Nat.le_of_ble_eq_true rfl) fun Q hE => ?_
 refine CW.weaken [0] (L' := [Y 0 (.int .i32 r)]) ?_ rfl
 refine CW.sr (RL.u (.assign .c) rfl (RL.nil (CW.id (CW.sr ?_))))
 refine RL.m rfl rfl (RL.u (.geq (.t rfl) .c) rfl (RL.m rfl rfl (RL.v (.pos rfl rfl) (.move (.t rfl)) rfl (RL.v (.pos rfl rfl) (.leq (.g rfl (fun h => h)) .c) rfl (RL.u (.and (.t rfl) (.g rfl (fun h => h))) rfl ?_)))))
 refine RL.a rfl rfl (RL.nil (CW.id ?_))
 refine CW.ret (hE.r1 rfl rfl ?_)
 exact ⟨rfl, rfl⟩

theorem cut_low {cut : Str} (h : ∀ b ∈ cut, b.toNat < 128) : ∀ (j : Nat) (b : UInt8), cut[j]? = some b → b.toNat < 128 := fun _ b hb => h b (List.mem_of_getElem? hb)
/- loupe/num.isFigures -/
theorem isFigures_c (s : Str) (w : World) (hg : Gl w) (hb : len s ≤ 9223372036854775807) :
  Calls Tryz.prog 158 [(str s)].toArray w fun e w' => e = .returned (.bool (figs s)) ∧ Ext w w' := by
 refine CW.enter1 Tryz.func158 rfl Tryz.ntmps158 (Nat.le_of_ble_eq_true rfl) fun Q hE => ?_
 have hS : St w nM w nM [] := St.start ⟨fun _ _ _ h => by cases h⟩
 refine CW.weaken [0] (L' := [Y 0 (str s)]) ?_ rfl
 refine CW.sr (RL.u (.assign .c) rfl (RL.nil (CW.id (CW.sr ?_))))
 refine RL.m rfl rfl ?_
 refine RL.callE hS .none Tryz.call210 (.cons (.t rfl) (.cons .f .nil)) (fun _ => (trimFunc_c 117 figP s _ (hg.low hS.low) Tryz.call117 (by omega) (fun x w _ => isFigure_c x w))) rfl (fun w1 hS2 => ?_)
 refine RL.u (.seql (.t rfl) .c) rfl (RL.a rfl rfl ?_)
 refine RL.nil (CW.at [Y 2 (.bool (((Lib.trimF figP ⟨⟨s⟩⟩).data.toList) == []))] rfl (CW.ret (hE.r1 rfl rfl ?_)))
 exact ⟨by rw [trimF_figs], hS2.low⟩

/- loupe/num.isPower -/
theorem isPower_c (n x : Int) (w : World) (h : 0 ≤ n ∧ n ≤ 1099511627776) :
  Calls Tryz.prog 160 [(i64 n), (i64 x)].toArray w fun e w' => e = .returned (.bool (decide (-1000 ≤ x) && decide (x ≤ 1000) && decide (n + x ≤ 1000))) ∧ w' = w := by
 refine CW.enter1 Tryz.func160 rfl Tryz.ntmps160 (Nat.le_of_ble_eq_true rfl) fun Q hE => ?_
 refine CW.weaken [0, 1] (L' := [Y 0 (i64 n), Y 1 (i64 x)]) ?_ rfl
 refine CW.sr (RL.u (.assign .c) rfl (RL.nil (CW.id (CW.sr ?_))))
 refine RL.m rfl rfl (RL.u (.geq (.t rfl) .c) rfl (RL.m rfl rfl (RL.v (.pos rfl rfl) (.move (.t rfl)) rfl (RL.v (.pos rfl rfl) (.leq (.g rfl (fun h => h)) .c) rfl (RL.u (.and (.t rfl) (.g rfl (fun h => h))) rfl ?_)))))
 refine RL.m rfl rfl (RL.v (.pos rfl rfl) (.move (.t rfl)) rfl (RL.v (.pos rfl rfl) (.move (.t rfl)) rfl (RL.v (.pos rfl rfl) (.add (.g rfl (fun h => h)) (.g rfl (fun h => h)) (fun hW => by simp only [zb] at hW; omega)) rfl (RL.v (.pos rfl rfl) (.leq (.g rfl (fun h => h)) .c) rfl (RL.u (.and (.t rfl) (.g rfl (fun h => h))) rfl ?_)))))
 refine RL.a rfl rfl (RL.nil (CW.id ?_))
 refine CW.ret (hE.r1 rfl rfl ?_)
 exact ⟨by first | rfl | simp [Bool.and_assoc], rfl⟩

/- loupe/num.Make -/
theorem make_c (neg : Bool) (s : Str) (x : Int) (w : World) (hg : Gl w) (hb : len s ≤ 1099511627776) :
  Calls Tryz.prog 121 [(.bool neg), (str s), (i64 x)].toArray w fun e w' => e = .returned (.tuple #[(ndV ((mk1 neg s x).1)), (i64 ((mk1 neg s x).2))]) ∧ Ext w w' := by
 refine CW.enter1 Tryz.func121 rfl Tryz.ntmps121 (Nat.le_of_ble_eq_true rfl) fun Q hE => ?_
 have hl5 := trimZ_pos s
 have hl1 := dropZ_len s
 have hl2 := trimZ_len (dropZ s)
 have hl3 := len_nonneg (dropZ s)
 have hl4 := len_nonneg (trimZ (dropZ s))
 have hS : St w nM w nM [] := St.start ⟨fun _ _ _ h => by cases h⟩
 refine CW.weaken [0, 1, 2] (L' := [Y 0 (.bool neg), Y 1 (str s), Y 2 (i64 x)]) ?_ rfl
 refine CW.sr ?_
 refine RL.alloc hS Tryz.zeroValue46 rfl (fun w1 b2 hS3 => ?_)
 refine RL.u (.assign .c) rfl (RL.nil (CW.id ?_))
 refine CW.seq (CW.sr (RL.m rfl rfl ?_))
 refine RL.callE hS3 .none Tryz.call158 (.cons (.t rfl) .nil) (fun _ => (isFigures_c s _ (hg.low hS3.low) (by omega))) rfl (fun w4 hS5 => ?_)
 refine RL.u (.not (.t rfl)) rfl ?_
 refine RL.nil (CW.at [Y 0 (.bool neg), Y 1 (str s), Y 2 (i64 x), Y 6 (.pointer (some ⟨b2, 0, none⟩)), Y 12 (.bool (!(figs s)))] rfl ?_)
 refine CW.cond rfl ?_ ?_ <;> intro hb1 <;> try simp only [zb] at hb1
 ·refine CW.sr (RL.u (.build (vs := []) (v := (.agg #[(i64 0), (i64 0), (str []), (str []), (.bool false), (i64 0)])) .nil (fun w => by kernel_rfl)) rfl ?_)
  refine RL.st hS5 (i := 0) rfl (.t rfl) (.t rfl) Tryz.sizeOf46 rfl rfl rfl rfl rfl (fun w6 hS7 => ?_)
  refine RL.u (.assign .c) rfl (RL.nil (CW.id ?_))
  refine CW.ret (hE.R2 rfl (.boxN hS7 (i := 0) rfl rfl Tryz.isAgg46 Tryz.sizeOf46) (show RV _ _ _ (.tmp _) _ from rfl) ?_)
  clear hE
  refine ⟨?_, hS7.low⟩
  have hm : mk1 neg s x = (noNd, 4) := by
   unfold mk1
   simp_all
   try ((repeat' split) <;> first | rfl | omega)
  rw [hm]; try rfl
 ·refine CW.skip (CW.id (CW.sr (RL.m rfl rfl ?_)))
  refine RL.callE hS5 .none Tryz.call47 (.cons (.t rfl) (.cons .c .nil)) (fun _ => (trimLeft_c s [48] _ (by decide) (cut_low (by decide)))) rfl (fun w8 hS9 => ?_)
  refine RL.a rfl rfl ?_
  refine RL.nil (CW.at [Y 0 (.bool neg), Y 2 (i64 x), Y 6 (.pointer (some ⟨b2, 0, none⟩)), Y 8 (str (dropZ s))] rfl (CW.seq (CW.sr (RL.m rfl rfl (RL.u (.seql (.t rfl) .c) rfl (RL.nil (CW.id ?_)))))))
  refine CW.cond rfl ?_ ?_ <;> intro hb2 <;> try simp only [zb] at hb2
  ·refine CW.sr (RL.u (.build (vs := [(0, (i64 3))]) (v := (.agg #[(i64 3), (i64 0), (str []), (str []), (.bool false), (i64 0)])) (.cons .c .nil) (fun w => by kernel_rfl)) rfl ?_)
   refine RL.st hS9 (i := 0) rfl (.t rfl) (.t rfl) Tryz.sizeOf46 rfl rfl rfl rfl rfl (fun w10 hS11 => ?_)
   refine RL.u (.assign .c) rfl (RL.nil (CW.id ?_))
   refine CW.ret (hE.R2 rfl (.boxN hS11 (i := 0) rfl rfl Tryz.isAgg46 Tryz.sizeOf46) (show RV _ _ _ (.tmp _) _ from rfl) ?_)
   clear hE
   refine ⟨?_, hS11.low⟩
   have hm : mk1 neg s x = (⟨3, 0, [], [], false, 0⟩, 0) := by
    unfold mk1
    simp_all
    try ((repeat' split) <;> first | rfl | omega)
   rw [hm]; try rfl
  ·refine CW.skip (CW.id (CW.seq (CW.sr (RL.m rfl rfl (RL.u (.lss (.t rfl) .c) rfl (RL.m rfl rfl (RL.v (.neg rfl rfl) (.move (.t rfl)) rfl (RL.v (.neg rfl rfl) (.gtr (.g rfl (fun h => h)) .c) rfl (RL.u (.or (.t rfl) (.g rfl (fun h => h))) rfl (RL.nil (CW.id ?_)))))))))))
   refine CW.cond rfl ?_ ?_ <;> intro hb3 <;> try simp only [zb] at hb3
   ·refine CW.sr (RL.u (.build (vs := []) (v := (.agg #[(i64 0), (i64 0), (str []), (str []), (.bool false), (i64 0)])) .nil (fun w => by kernel_rfl)) rfl ?_)
    refine RL.st hS9 (i := 0) rfl (.t rfl) (.t rfl) Tryz.sizeOf46 rfl rfl rfl rfl rfl (fun w12 hS13 => ?_)
    refine RL.u (.assign .c) rfl (RL.nil (CW.id ?_))
    refine CW.ret (hE.R2 rfl (.boxN hS13 (i := 0) rfl rfl Tryz.isAgg46 Tryz.sizeOf46) (show RV _ _ _ (.tmp _) _ from rfl) ?_)
    clear hE
    refine ⟨?_, hS13.low⟩
    have hm : mk1 neg s x = (noNd, 2) := by
     unfold mk1
     simp_all
     try ((repeat' split) <;> first | rfl | omega)
    rw [hm]; try rfl
   ·refine CW.skip (CW.id (CW.sr (RL.m rfl rfl ?_)))
    refine RL.callE hS9 .none Tryz.call159 (.cons (.t rfl) (.cons .c .nil)) (fun _ => (trimRight_c (dropZ s) [48] _ (by omega) (by decide) (cut_low (by decide)))) rfl (fun w14 hS15 => ?_)
    refine RL.a rfl rfl ?_
    refine RL.nil (CW.at [Y 0 (.bool neg), Y 2 (i64 x), Y 6 (.pointer (some ⟨b2, 0, none⟩)), Y 8 (str (dropZ s)), Y 9 (str (trimZ (dropZ s)))] rfl (CW.sr (RL.m rfl rfl (RL.m rfl rfl (RL.u (.lenS (.t rfl) Tryz.underlying9) rfl (RL.m rfl rfl (RL.u (.lenS (.t rfl) Tryz.underlying9) rfl (RL.u (.sub (.t rfl) (.t rfl) (fun _ => by omega)) rfl (RL.u (.add (.t rfl) (.t rfl) (fun _ => by omega)) rfl (RL.a rfl rfl (RL.nil (CW.id ?_))))))))))))
    refine CW.seq (CW.sr (RL.m rfl rfl (RL.u (.lenS (.t rfl) Tryz.underlying9) rfl (RL.u (.gtr (.t rfl) .c) rfl (RL.m rfl rfl (RL.v (.neg rfl rfl) (.move (.t rfl)) rfl (RL.v (.neg rfl rfl) (.lenS (.g rfl (fun h => h)) Tryz.underlying9) rfl (RL.v (.neg rfl rfl) (.move (.t rfl)) rfl ?_))))))))
    refine RL.callS (.neg rfl rfl) Tryz.call160 (.cons (.g rfl (fun h => h)) (.cons (.g rfl (fun h => h)) .nil)) (fun hW => by simp only [zb] at hW; exact (isPower_c (len (trimZ (dropZ s))) (x + ((len (dropZ s)) - (len (trimZ (dropZ s))))) _ (by omega))) rfl ?_
    refine RL.v (.neg rfl rfl) (.not (.g rfl (fun h => h))) rfl (RL.u (.or (.t rfl) (.g rfl (fun h => h))) rfl ?_)
    refine RL.nil (CW.at [Y 0 (.bool neg), Y 2 (i64 (x + ((len (dropZ s)) - (len (trimZ (dropZ s)))))), Y 6 (.pointer (some ⟨b2, 0, none⟩)), Y 9 (str (trimZ (dropZ s))), Y 44 (.bool ((decide (100 < (len (trimZ (dropZ s))))) || (!(decide ((-1000 : Int) ≤ (x + ((len (dropZ s)) - (len (trimZ (dropZ s)))))) && decide ((x + ((len (dropZ s)) - (len (trimZ (dropZ s))))) ≤ 1000) && decide ((len (trimZ (dropZ s))) + (x + ((len (dropZ s)) - (len (trimZ (dropZ s))))) ≤ 1000)))))] rfl ?_)
    refine CW.cond rfl ?_ ?_ <;> intro hb4 <;> try simp only [zb] at hb4
    ·refine CW.sr (RL.u (.build (vs := []) (v := (.agg #[(i64 0), (i64 0), (str []), (str []), (.bool false), (i64 0)])) .nil (fun w => by kernel_rfl)) rfl ?_)
     refine RL.st hS15 (i := 0) rfl (.t rfl) (.t rfl) Tryz.sizeOf46 rfl rfl rfl rfl rfl (fun w16 hS17 => ?_)
     refine RL.u (.assign .c) rfl (RL.nil (CW.id ?_))
     refine CW.ret (hE.R2 rfl (.boxN hS17 (i := 0) rfl rfl Tryz.isAgg46 Tryz.sizeOf46) (show RV _ _ _ (.tmp _) _ from rfl) ?_)
     clear hE
     refine ⟨?_, hS17.low⟩
     have hm : mk1 neg s x = (noNd, 2) := by
      unfold mk1
      simp_all
      try ((repeat' split) <;> first | rfl | omega)
     rw [hm]; try rfl
    ·refine CW.skip (CW.id (CW.sr (RL.m rfl rfl (RL.m rfl rfl (RL.m rfl rfl (RL.u (.build (vs := [(0, (i64 3)), (3, (str (trimZ (dropZ s)))), (4, (.bool neg)), (5, (i64 (x + ((len (dropZ s)) - (len (trimZ (dropZ s)))))))]) (v := (.agg #[(i64 3), (i64 0), (str []), (str (trimZ (dropZ s))), (.bool neg), (i64 (x + ((len (dropZ s)) - (len (trimZ (dropZ s))))))])) (.cons .c (.cons (.t rfl) (.cons (.t rfl) (.cons (.t rfl) .nil)))) (fun w => by kernel_rfl)) rfl ?_))))))
     refine RL.st hS15 (i := 0) rfl (.t rfl) (.t rfl) Tryz.sizeOf46 rfl rfl rfl rfl rfl (fun w18 hS19 => ?_)
     refine RL.u (.assign .c) rfl (RL.nil (CW.id ?_))
     refine CW.ret (hE.R2 rfl (.boxN hS19 (i := 0) rfl rfl Tryz.isAgg46 Tryz.sizeOf46) (show RV _ _ _ (.tmp _) _ from rfl) ?_)
     clear hE
     refine ⟨?_, hS19.low⟩
     have hm : mk1 neg s x = (⟨3, 0, [], trimZ (dropZ s), neg, x + (len (dropZ s) - len (trimZ (dropZ s)))⟩, 0) := by
      unfold mk1
      simp_all
      try ((repeat' split) <;> first | rfl | omega)
     rw [hm]; try rfl

/- loupe/num.Read$1 -/
theorem take_c {w wv : World} {M0 M : Mem} {Rs : List HO} (s : Str) (p : Int) (bp bs : Nat) (hS : St w M0 wv M (.box bp [(i64 p)] 3 :: .box bs [(str s)] 9 :: Rs)) (h0 : 0 ≤ p) (h1 : p ≤ len s) (hb : len s ≤ 9223372036854775807) :
  Calls Tryz.prog 116 [(.pointer (some ⟨bp, 0, none⟩)), (.pointer (some ⟨bs, 0, none⟩))].toArray wv fun e w' => ∃ v, e = .returned v ∧ v = str (Eng.sub s p (runTo s p)) ∧ St w M0 w' M (.box bp [i64 (runTo s p)] 3 :: .box bs [str s] 9 :: Rs) := by
 refine CW.enter1 Tryz.func116 rfl Tryz.ntmps116 (Nat.le_of_ble_eq_true rfl) fun Q hE => ?_
 have hbd := runTo_bd s p h0 h1
 refine CW.weaken [0, 1] (L' := [Y 0 (.pointer (some ⟨bp, 0, none⟩)), Y 1 (.pointer (some ⟨bs, 0, none⟩))]) ?_ rfl
 refine CW.sr (RL.u (.assign .c) rfl (RL.nil (CW.id (CW.sr ?_))))
 refine RL.u (.loadB1 (v := (i64 p)) hS extEq (i := 0) rfl (.t rfl) Tryz.isAgg3 rfl) rfl (RL.a rfl rfl (RL.nil (CW.id ?_)))
 refine CW.seq (CW.block ?_)
 refine CW.loop (σ := Int) (fun k => [Y 0 (.pointer (some ⟨bp, 0, none⟩)), Y 1 (.pointer (some ⟨bs, 0, none⟩)), Y 3 (i64 p)]) (fun k wl => St w M0 wl M (.box bp [(i64 k)] 3 :: .box bs [(str s)] 9 :: Rs) ∧ p ≤ k ∧ k ≤ len s ∧ runTo s k = runTo s p) (fun k => (len s - k).toNat) p [0, 1, 3] rfl ?_ ?_
 ·refine ⟨hS, ?_⟩; exact ⟨by omega, by omega, rfl⟩
 ·rintro k wl ⟨hS1, hk0, hk1, hkF⟩
  have hby := byteAt_bd s k
  refine CW.seq (CW.sr (RL.u (.loadB1 (v := (i64 k)) hS1 extEq (i := 0) rfl (.t rfl) Tryz.isAgg3 rfl) rfl (RL.u (.loadB1 (v := (str s)) hS1 extEq (i := 1) rfl (.t rfl) Tryz.isAgg9 rfl) rfl (RL.u (.lenS (.t rfl) Tryz.underlying9) rfl (RL.u (.lss (.t rfl) (.t rfl)) rfl (RL.m rfl rfl (RL.v (.pos rfl rfl) (.loadB1 (v := (str s)) hS1 extEq (i := 1) rfl (.t rfl) Tryz.isAgg9 rfl) rfl (RL.v (.pos rfl rfl) (.loadB1 (v := (i64 k)) hS1 extEq (i := 0) rfl (.t rfl) Tryz.isAgg3 rfl) rfl (RL.v (.pos rfl rfl) (.idxS (.g rfl (fun h => h)) (.g rfl (fun h => h)) Tryz.underlying9 (fun hW => by simp only [zb] at hW; omega)) rfl (RL.v (.pos rfl rfl) (.cvtK (r := byteAt s k) (.g rfl (fun h => h)) Tryz.underlying5 Tryz.underlying21 (fun hW => by simp only [zb] at hW; exact Eng.wrap_i32 (by omega))) rfl ?_))))))))))
  refine RL.callS (.pos rfl rfl) Tryz.call117 (.cons (.g rfl (fun h => h)) .nil) (fun hW => by simp only [zb] at hW; exact (isFigure_c (byteAt s k) _)) rfl ?_
  refine RL.u (.and (.t rfl) (.g rfl (fun h => h))) rfl ?_
  refine RL.nil (CW.at [Y 0 (.pointer (some ⟨bp, 0, none⟩)), Y 1 (.pointer (some ⟨bs, 0, none⟩)), Y 3 (i64 p), Y 15 (.bool ((decide (k < (len s))) && (isFig (byteAt s k))))] rfl ?_)
  refine CW.cond rfl ?_ ?_ <;> intro hb1 <;> try simp only [zb] at hb1
  ·refine CW.skip (CW.id (CW.block ?_))
   refine CW.region (RL.u (.loadB1 (v := (i64 k)) hS1 extEq (i := 0) rfl (.t rfl) Tryz.isAgg3 rfl) rfl (RL.u (.add (.t rfl) .c (fun _ => by omega)) rfl ?_))
   refine RL.st hS1 (i := 0) rfl (.t rfl) (.t rfl) Tryz.sizeOf3 rfl rfl rfl rfl rfl (fun w2 hS3 => ?_)
   refine RL.nil fun a hs => Exists.intro (k + 1) ⟨hs.keep [0, 1, 3], ?_, ?_⟩
   ·refine ⟨hS3, ?_⟩
    exact ⟨by omega, by omega, by rw [← hkF, runTo_step (by omega) (by omega) hb1.2]⟩
   ·show Int.toNat _ < Int.toNat _; omega
  ·refine CW.exit (CW.at [Y 0 (.pointer (some ⟨bp, 0, none⟩)), Y 1 (.pointer (some ⟨bs, 0, none⟩)), Y 3 (i64 p)] rfl ?_)
   refine CW.sr (RL.u (.loadB1 (v := (str s)) hS1 extEq (i := 1) rfl (.t rfl) Tryz.isAgg9 rfl) rfl (RL.m rfl rfl (RL.u (.loadB1 (v := (i64 k)) hS1 extEq (i := 0) rfl (.t rfl) Tryz.isAgg3 rfl) rfl (RL.u (.slS (.t rfl) (.t rfl) (.t rfl) Tryz.underlying9 (fun _ => by omega)) rfl (RL.a rfl rfl (RL.nil (CW.id (CW.ret (hE.r1 rfl rfl ?_)))))))))
   clear hE
   have hk : k = runTo s p := by
    rw [← hkF]
    by_cases hl : k < len s
    ·exact (runTo_stop (by omega) hl (by simp_all)).symm
    ·exact (runTo_end (by omega)).symm
   subst hk
   exact ⟨_, rfl, rfl, hS1⟩

theorem take_q {w wv : World} {M0 M : Mem} {Rs : List HO} (s : Str) (p : Int) (bp bs : Nat) (hS : St w M0 wv M (.box bp [i64 p] 3 :: .box bs [str s] 9 :: Rs)) (h0 : 0 ≤ p) (h1 : p ≤ len s) (hb : len s ≤ 9223372036854775807) :
    Calls Tryz.prog 116 [.pointer (some ⟨bp, 0, none⟩), .pointer (some ⟨bs, 0, none⟩)].toArray wv fun e w' => ∃ v, e = .returned v ∧ ∃ q, q = runTo s p ∧ p ≤ q ∧ q ≤ len s ∧ len (Eng.sub s p q) = q - p ∧ v = str (Eng.sub s p q) ∧ St w M0 w' M (.box bp [i64 q] 3 :: .box bs [str s] 9 :: Rs) :=
  (take_c s p bp bs hS h0 h1 hb).mono fun e w' ⟨v, he, hv, hs⟩ => ⟨v, he, runTo s p, rfl, (runTo_bd s p h0 h1).1, (runTo_bd s p h0 h1).2, sub_len h0 (runTo_bd s p h0 h1).1 (runTo_bd s p h0 h1).2, hv, hs⟩
/- loupe/num.Read$2 -/
theorem is_c {w wv : World} {M0 M : Mem} {Rs : List HO} (s signs : Str) (p : Int) (bp bs : Nat) (hS : St w M0 wv M (.box bp [(i64 p)] 3 :: .box bs [(str s)] 9 :: Rs)) (h0 : 0 ≤ p) (h1 : p ≤ len s) (hb : len s < 9223372036854775807) :
  Calls Tryz.prog 118 [(str signs), (.pointer (some ⟨bp, 0, none⟩)), (.pointer (some ⟨bs, 0, none⟩))].toArray wv fun e w' => ∃ v, e = .returned v ∧ v = .bool (isAt s signs p) ∧ St w M0 w' M (.box bp [i64 (isTo s signs p)] 3 :: .box bs [str s] 9 :: Rs) := by
 refine CW.enter1 Tryz.func118 rfl Tryz.ntmps118 (Nat.le_of_ble_eq_true rfl) fun Q hE => ?_
 have hby := byteAt_bd s p
 refine CW.weaken [0, 1, 2] (L' := [Y 0 (str signs), Y 1 (.pointer (some ⟨bp, 0, none⟩)), Y 2 (.pointer (some ⟨bs, 0, none⟩))]) ?_ rfl
 refine CW.sr (RL.u (.assign .c) rfl (RL.nil (CW.id (CW.seq ?_))))
 refine CW.sr (RL.u (.loadB1 (v := (i64 p)) hS extEq (i := 0) rfl (.t rfl) Tryz.isAgg3 rfl) rfl (RL.u (.loadB1 (v := (str s)) hS extEq (i := 1) rfl (.t rfl) Tryz.isAgg9 rfl) rfl (RL.u (.lenS (.t rfl) Tryz.underlying9) rfl (RL.u (.lss (.t rfl) (.t rfl)) rfl (RL.m rfl rfl (RL.v (.pos rfl rfl) (.move (.t rfl)) rfl (RL.v (.pos rfl rfl) (.loadB1 (v := (str s)) hS extEq (i := 1) rfl (.t rfl) Tryz.isAgg9 rfl) rfl (RL.v (.pos rfl rfl) (.loadB1 (v := (i64 p)) hS extEq (i := 0) rfl (.t rfl) Tryz.isAgg3 rfl) rfl (RL.v (.pos rfl rfl) (.idxS (.g rfl (fun h => h)) (.g rfl (fun h => h)) Tryz.underlying9 (fun hW => by simp only [zb] at hW; omega)) rfl ?_)))))))))
 refine RL.callS (.pos rfl rfl) Tryz.call119 (.cons (.g rfl (fun h => h)) (.cons (.g rfl (fun h => h)) .nil)) (fun hW => by simp only [zb] at hW; exact (indexByte_c signs (byteAt s p) _)) rfl ?_
 refine RL.v (.pos rfl rfl) (.geq (.g rfl (fun h => h)) .c) rfl (RL.u (.and (.t rfl) (.g rfl (fun h => h))) rfl ?_)
 refine RL.nil (CW.at [Y 1 (.pointer (some ⟨bp, 0, none⟩)), Y 16 (.bool ((decide (p < (len s))) && (decide (0 ≤ (Lib.indexByte signs (byteAt s p).toNat.toUInt8)))))] rfl ?_)
 refine CW.cond rfl ?_ ?_ <;> intro hb1 <;> try simp only [zb] at hb1
 ·refine CW.sr (RL.u (.loadB1 (v := (i64 p)) hS extEq (i := 0) rfl (.t rfl) Tryz.isAgg3 rfl) rfl (RL.u (.add (.t rfl) .c (fun _ => by omega)) rfl ?_))
  refine RL.st hS (i := 0) rfl (.t rfl) (.t rfl) Tryz.sizeOf3 rfl rfl rfl rfl rfl (fun w1 hS2 => (RL.nil (CW.id ?_)))
  refine CW.sr (RL.u (.assign .c) rfl (RL.nil (CW.id (CW.ret (hE.r1 rfl rfl ?_)))))
  have hq : isAt s signs p = true := by unfold isAt; simp only [zb]; exact hb1
  exact ⟨_, rfl, by rw [hq], by rw [isTo_yes hq]; exact hS2⟩
 ·refine CW.skip (CW.id (CW.sr (RL.u (.assign .c) rfl (RL.nil (CW.id ?_)))))
  refine CW.ret (hE.r1 rfl rfl ?_)
  have hq : isAt s signs p = false := by unfold isAt; simp only [zb]; exact hb1
  exact ⟨_, rfl, by rw [hq], by rw [isTo_no hq]; exact hS⟩

theorem is_q {w wv : World} {M0 M : Mem} {Rs : List HO} (s signs : Str) (p : Int) (bp bs : Nat) (hS : St w M0 wv M (.box bp [i64 p] 3 :: .box bs [str s] 9 :: Rs)) (h0 : 0 ≤ p) (h1 : p ≤ len s) (hb : len s < 9223372036854775807) :
    Calls Tryz.prog 118 [str signs, .pointer (some ⟨bp, 0, none⟩), .pointer (some ⟨bs, 0, none⟩)].toArray wv fun e w' => ∃ v, e = .returned v ∧ ∃ q c, q = isTo s signs p ∧ c = isAt s signs p ∧ p ≤ q ∧ q ≤ len s ∧ (c = true → q = p + 1) ∧ (c = false → q = p) ∧ v = .bool c ∧ St w M0 w' M (.box bp [i64 q] 3 :: .box bs [str s] 9 :: Rs) :=
  (is_c s signs p bp bs hS h0 h1 hb).mono fun e w' ⟨v, he, hv, hs⟩ => ⟨v, he, isTo s signs p, isAt s signs p, rfl, rfl, (isTo_bd s signs p h1).1, (isTo_bd s signs p h1).2, isTo_yes, isTo_no, hv, hs⟩
/- loupe/num.Read -/
set_option maxHeartbeats 4000000 in
theorem read_c (s : Str) (w : World) (hg : Gl w) (hb : len s ≤ 1099511627776) :
  Calls Tryz.prog 80 [(str s)].toArray w fun e w' => e = .returned (.tuple #[(ndV ((read1 s).1)), (i64 ((read1 s).2.1)), (i64 ((read1 s).2.2))]) ∧ Ext w w' := by
 refine CW.enter1 Tryz.func80 rfl Tryz.ntmps80 (Nat.le_of_ble_eq_true rfl) fun Q hE => ?_
 have := len_nonneg s
 have hS : St w nM w nM [] := St.start ⟨fun _ _ _ h => by cases h⟩
 refine CW.weaken [0] (L' := [Y 0 (str s)]) ?_ rfl
 refine CW.sr ?_
 refine RL.box (v := (str s)) hS (.t rfl) rfl (fun w1 b2 hS3 => ?_)
 refine RL.alloc hS3 Tryz.zeroValue46 rfl (fun w4 b5 hS6 => ?_)
 refine RL.u (.assign .c) rfl (RL.u (.assign .c) rfl (RL.nil (CW.id ?_)))
 refine CW.sr ?_
 refine RL.alloc hS6 Tryz.zeroValue3 rfl (fun w7 b8 hS9 => ?_)
 refine RL.st (v := (i64 0)) hS9 (i := 0) rfl (.t rfl) .c Tryz.sizeOf3 rfl rfl rfl rfl rfl (fun w10 hS11 => (RL.nil (CW.id ?_)))
 refine CW.sr (RL.u (.makeFunc .nil (.cons (.t rfl) (.cons (.t rfl) .nil))) rfl (RL.a rfl rfl (RL.nil (CW.id (CW.sr ?_)))))
 refine RL.u (.makeFunc .nil (.cons (.t rfl) (.cons (.t rfl) .nil))) rfl (RL.a rfl rfl (RL.nil (CW.id ?_)))
 refine CW.sr (RL.m rfl rfl ?_)
 replace hS11 : St w nM w10 nM [.box b8 [(i64 0)] 3, .box b2 [(str s)] 9, .box b5 [(i64 0), (i64 0), (str []), (str []), (.bool false), (i64 0)] 46] := (hS11.front 2 rfl rfl).front 1 rfl rfl
 refine RL.callC (fs := []) (cs := [(.pointer (some ⟨b8, 0, none⟩)), (.pointer (some ⟨b2, 0, none⟩))]) Tryz.call118 (.t rfl) (.cons .c .nil) (is_q (Rs := [.box b5 [(i64 0), (i64 0), (str []), (str []), (.bool false), (i64 0)] 46]) s [45] 0 b8 b2 hS11 (by omega) (by omega) (by omega)) rfl ?_
 rintro v14 w15 ⟨q12, c13, hq12, hc13, hq12a, hq12b, hc13y, hc13n, rfl, hS17⟩
 replace hS17 : St w nM w15 nM [.box b8 [(i64 q12)] 3, .box b2 [(str s)] 9, .box b5 [(i64 0), (i64 0), (str []), (str []), (.bool false), (i64 0)] 46] := hS17
 refine RL.a rfl rfl ?_
 refine RL.nil (CW.at [Y 1 (.pointer (some ⟨b2, 0, none⟩)), Y 2 (.pointer (some ⟨b5, 0, none⟩)), Y 5 (.pointer (some ⟨b8, 0, none⟩)), Y 6 (.func (.func 116) #[] #[(.pointer (some ⟨b8, 0, none⟩)), (.pointer (some ⟨b2, 0, none⟩))]), Y 7 (.func (.func 118) #[] #[(.pointer (some ⟨b8, 0, none⟩)), (.pointer (some ⟨b2, 0, none⟩))]), Y 8 (.bool c13)] rfl (CW.sr (RL.u (.loadB1 (v := (i64 q12)) hS17 extEq (i := 0) rfl (.t rfl) Tryz.isAgg3 rfl) rfl (RL.a rfl rfl (RL.nil (CW.id ?_))))))
 refine CW.sr (RL.m rfl rfl ?_)
 replace hS17 : St w nM w15 nM [.box b8 [(i64 q12)] 3, .box b2 [(str s)] 9, .box b5 [(i64 0), (i64 0), (str []), (str []), (.bool false), (i64 0)] 46] := (hS17.front 1 rfl rfl).front 1 rfl rfl
 refine RL.callC (fs := []) (cs := [(.pointer (some ⟨b8, 0, none⟩)), (.pointer (some ⟨b2, 0, none⟩))]) Tryz.call116 (.t rfl) .nil (take_q (Rs := [.box b5 [(i64 0), (i64 0), (str []), (str []), (.bool false), (i64 0)] 46]) s q12 b8 b2 hS17 (by omega) (by omega) (by omega)) rfl ?_
 rintro v20 w21 ⟨q19, hq19, hq19a, hq19b, hq19c, rfl, hS23⟩
 replace hS23 : St w nM w21 nM [.box b8 [(i64 q19)] 3, .box b2 [(str s)] 9, .box b5 [(i64 0), (i64 0), (str []), (str []), (.bool false), (i64 0)] 46] := hS23
 refine RL.a rfl rfl ?_
 refine RL.nil (CW.at [Y 1 (.pointer (some ⟨b2, 0, none⟩)), Y 2 (.pointer (some ⟨b5, 0, none⟩)), Y 5 (.pointer (some ⟨b8, 0, none⟩)), Y 6 (.func (.func 116) #[] #[(.pointer (some ⟨b8, 0, none⟩)), (.pointer (some ⟨b2, 0, none⟩))]), Y 7 (.func (.func 118) #[] #[(.pointer (some ⟨b8, 0, none⟩)), (.pointer (some ⟨b2, 0, none⟩))]), Y 8 (.bool c13), Y 9 (i64 q12), Y 10 (str (Eng.sub s q12 q19))] rfl (CW.seq (CW.sr (RL.m rfl rfl (RL.u (.lenS (.t rfl) Tryz.underlying9) rfl (RL.u (.gtr (.t rfl) .c) rfl (RL.m rfl rfl (RL.v (.pos rfl rfl) (.move (.t rfl)) rfl (RL.v (.pos rfl rfl) (.idxS (.g rfl (fun h => h)) .c Tryz.underlying9 (fun hW => by simp only [zb] at hW; first | omega | (rcases hsd with rfl | rfl <;> omega) | (simp only [len_app, len_cons, len_nil] at *; omega))) rfl ?_)))))))))
 refine RL.v (.pos rfl rfl) (.eql (.g rfl (fun h => h)) .c) rfl (RL.u (.and (.t rfl) (.g rfl (fun h => h))) rfl (RL.nil (CW.id ?_)))
 refine CW.cond rfl ?_ ?_ <;> intro hb1 <;> try simp only [zb, and_true, true_and, false_or, or_false, not_true_eq_false, not_false_eq_true] at hb1
 ·refine CW.sr (RL.u (.build (vs := []) (v := (.agg #[(i64 0), (i64 0), (str []), (str []), (.bool false), (i64 0)])) .nil (fun w => by kernel_rfl)) rfl (RL.m rfl rfl (RL.u (.add (.t rfl) .c (fun _ => by first | omega | (rcases hsd with rfl | rfl <;> omega) | (simp only [len_app, len_cons, len_nil] at *; omega))) rfl ?_)))
  refine RL.st hS23 (i := 2) rfl (.t rfl) (.t rfl) Tryz.sizeOf46 rfl rfl rfl rfl rfl (fun w25 hS26 => ?_)
  refine RL.a rfl rfl (RL.u (.assign .c) rfl (RL.nil (CW.id ?_)))
  refine CW.ret (hE.R3 rfl (.boxN hS26 (i := 2) rfl rfl Tryz.isAgg46 Tryz.sizeOf46) (show RV _ _ _ (.tmp _) _ from rfl) (show RV _ _ _ (.tmp _) _ from rfl) ?_)
  refine ⟨?_, hS26.low⟩
  have hr : read1 s = (⟨0, 0, [], [], false, 0⟩, q12 + 1, 1) := by
   unfold read1 rest1 exp1 fin1
   simp only [← hq12, ← hc13, ← hq19, hb1, if_true, if_false, reduceIte, or_self, or_true, true_or, and_self, and_true, true_and, false_and, and_false, or_false, false_or, Bool.false_eq_true, not_true_eq_false, not_false_eq_true, beq_self_eq_true]
   all_goals first | rfl | (exfalso; simp [] at hb1; done)
  rw [hr]
  try rfl
 ·have hb1n := not_and_of_not_or_not hb1
  refine CW.skip (CW.id (CW.sr (RL.m rfl rfl (RL.u (.seql (.t rfl) .c) rfl (RL.a rfl rfl (RL.nil (CW.id ?_)))))))
  refine CW.sr (RL.u (.assign .c) rfl (RL.nil (CW.id ?_)))
  refine CW.mid (σ := Str × Bool × Int × Int) (fun (fg, bd, x, ba) => [Y 1 (.pointer (some ⟨b2, 0, none⟩)), Y 2 (.pointer (some ⟨b5, 0, none⟩)), Y 5 (.pointer (some ⟨b8, 0, none⟩)), Y 6 (.func (.func 116) #[] #[(.pointer (some ⟨b8, 0, none⟩)), (.pointer (some ⟨b2, 0, none⟩))]), Y 7 (.func (.func 118) #[] #[(.pointer (some ⟨b8, 0, none⟩)), (.pointer (some ⟨b2, 0, none⟩))]), Y 8 (.bool c13), Y 10 (str fg), Y 11 (.bool bd), Y 12 (i64 x)]) (fun (fg, bd, x, ba) wm27 => St w nM wm27 nM [.box b8 [(i64 ba)] 3, .box b2 [(str s)] 9, .box b5 [(i64 0), (i64 0), (str []), (str []), (.bool false), (i64 0)] 46] ∧ (read1 s = (if bd = true then (noNd, ba, 1) else rest1 s c13 fg x ba) ∧ (0 ≤ ba ∧ ba ≤ len s) ∧ len fg ≤ len s ∧ (-(len s) ≤ x ∧ x ≤ 0))) ?_ ?_
  ·refine CW.sr (RL.m rfl rfl (RL.u (.not (.t rfl)) rfl (RL.m rfl rfl (RL.v (.pos rfl rfl) (.move (.t rfl)) rfl ?_))))
   refine RL.split (.pos rfl rfl) rfl (fun hg29 => ?_) (fun hg29 => ?_)
   ·have hg29' := hg29
    try simp only [zb] at hg29'
    replace hS23 : St w nM w21 nM [.box b8 [(i64 q19)] 3, .box b2 [(str s)] 9, .box b5 [(i64 0), (i64 0), (str []), (str []), (.bool false), (i64 0)] 46] := (hS23.front 1 rfl rfl).front 1 rfl rfl
    refine RL.callC (fs := []) (cs := [(.pointer (some ⟨b8, 0, none⟩)), (.pointer (some ⟨b2, 0, none⟩))]) Tryz.call118 (.g rfl (fun _ => hg29)) (.cons .c .nil) (is_q (Rs := [.box b5 [(i64 0), (i64 0), (str []), (str []), (.bool false), (i64 0)] 46]) s [46] q19 b8 b2 hS23 (by omega) (by omega) (by omega)) rfl ?_
    rintro v32 w33 ⟨q30, c31, hq30, hc31, hq30a, hq30b, hc31y, hc31n, rfl, hS35⟩
    replace hS35 : St w nM w33 nM [.box b8 [(i64 q30)] 3, .box b2 [(str s)] 9, .box b5 [(i64 0), (i64 0), (str []), (str []), (.bool false), (i64 0)] 46] := hS35
    refine RL.u (.and (.t rfl) (.t rfl)) rfl ?_
    refine RL.nil (CW.at [Y 1 (.pointer (some ⟨b2, 0, none⟩)), Y 2 (.pointer (some ⟨b5, 0, none⟩)), Y 5 (.pointer (some ⟨b8, 0, none⟩)), Y 6 (.func (.func 116) #[] #[(.pointer (some ⟨b8, 0, none⟩)), (.pointer (some ⟨b2, 0, none⟩))]), Y 7 (.func (.func 118) #[] #[(.pointer (some ⟨b8, 0, none⟩)), (.pointer (some ⟨b2, 0, none⟩))]), Y 8 (.bool c13), Y 10 (str (Eng.sub s q12 q19)), Y 11 (.bool ((Eng.sub s q12 q19) == [])), Y 12 (i64 0), Y 45 (.bool ((!((Eng.sub s q12 q19) == [])) && c31))] rfl ?_)
    refine CW.cond rfl ?_ ?_ <;> intro hb2 <;> try simp only [zb, hb1, hg29', and_true, true_and, false_or, or_false, not_true_eq_false, not_false_eq_true] at hb2
    ·refine CW.sr (RL.m rfl rfl ?_)
     replace hS35 : St w nM w33 nM [.box b8 [(i64 q30)] 3, .box b2 [(str s)] 9, .box b5 [(i64 0), (i64 0), (str []), (str []), (.bool false), (i64 0)] 46] := (hS35.front 1 rfl rfl).front 1 rfl rfl
     refine RL.callC (fs := []) (cs := [(.pointer (some ⟨b8, 0, none⟩)), (.pointer (some ⟨b2, 0, none⟩))]) Tryz.call116 (.t rfl) .nil (take_q (Rs := [.box b5 [(i64 0), (i64 0), (str []), (str []), (.bool false), (i64 0)] 46]) s q30 b8 b2 hS35 (by omega) (by omega) (by omega)) rfl ?_
     rintro v38 w39 ⟨q37, hq37, hq37a, hq37b, hq37c, rfl, hS41⟩
     replace hS41 : St w nM w39 nM [.box b8 [(i64 q37)] 3, .box b2 [(str s)] 9, .box b5 [(i64 0), (i64 0), (str []), (str []), (.bool false), (i64 0)] 46] := hS41
     refine RL.a rfl rfl ?_
     refine RL.nil (CW.at [Y 1 (.pointer (some ⟨b2, 0, none⟩)), Y 2 (.pointer (some ⟨b5, 0, none⟩)), Y 5 (.pointer (some ⟨b8, 0, none⟩)), Y 6 (.func (.func 116) #[] #[(.pointer (some ⟨b8, 0, none⟩)), (.pointer (some ⟨b2, 0, none⟩))]), Y 7 (.func (.func 118) #[] #[(.pointer (some ⟨b8, 0, none⟩)), (.pointer (some ⟨b2, 0, none⟩))]), Y 8 (.bool c13), Y 10 (str (Eng.sub s q12 q19)), Y 13 (str (Eng.sub s q30 q37))] rfl (CW.sr (RL.m rfl rfl (RL.u (.seql (.t rfl) .c) rfl (RL.a rfl rfl (RL.nil (CW.id ?_)))))))
     refine CW.sr (RL.m rfl rfl (RL.m rfl rfl (RL.u (.sadd (.t rfl) (.t rfl) (fun _ => by first | omega | (rcases hsd with rfl | rfl <;> omega) | (simp only [len_app, len_cons, len_nil] at *; omega))) rfl (RL.a rfl rfl (RL.nil (CW.id ?_))))))
     refine CW.region (RL.m rfl rfl (RL.u (.lenS (.t rfl) Tryz.underlying9) rfl (RL.u (.negK (r := -(len (Eng.sub s q30 q37))) (.t rfl) (fun _ => by exact Eng.wrap_i64 (by omega))) rfl (RL.a rfl rfl ?_))))
     exact RL.nil fun a hs => ⟨((Eng.sub s q12 q19) ++ (Eng.sub s q30 q37), (Eng.sub s q30 q37) == [], -(len (Eng.sub s q30 q37)), q37), hs.keep [1, 2, 5, 6, 7, 8, 10, 11, 12], hS41, ⟨(by rw [read1]; simp only [← hq12, ← hc13, ← hq19, ← hq30, ← hc31, ← hq37, hb1n, if_true, if_false, reduceIte, beq_iff_eq, or_self, or_true, true_or, and_self, and_true, true_and, false_and, and_false, or_false, false_or, Bool.false_eq_true, not_true_eq_false, not_false_eq_true, beq_self_eq_true]; try simp only [hg29', hb2, if_true, if_false, reduceIte, beq_iff_eq, or_self, or_true, true_or, and_self, and_true, true_and, false_and, and_false, or_false, false_or, Bool.false_eq_true, not_true_eq_false, not_false_eq_true, beq_self_eq_true]), by omega, by (try rw [len_app]); omega, by omega⟩⟩
    ·exact CW.skip fun a hs => ⟨(Eng.sub s q12 q19, (Eng.sub s q12 q19) == [], 0, q30), hs.keep [1, 2, 5, 6, 7, 8, 10, 11, 12], hS35, ⟨(by rw [read1]; simp only [← hq12, ← hc13, ← hq19, ← hq30, ← hc31, hb1n, if_true, if_false, reduceIte, beq_iff_eq, or_self, or_true, true_or, and_self, and_true, true_and, false_and, and_false, or_false, false_or, Bool.false_eq_true, not_true_eq_false, not_false_eq_true, beq_self_eq_true]; try simp only [hg29', hb2, if_true, if_false, reduceIte, beq_iff_eq, or_self, or_true, true_or, and_self, and_true, true_and, false_and, and_false, or_false, false_or, Bool.false_eq_true, not_true_eq_false, not_false_eq_true, beq_self_eq_true]), by omega, by (try rw [len_app]); omega, by omega⟩⟩
   ·have hg29' := hg29
    try simp only [zb] at hg29'
    refine RL.u (.and (.t rfl) (.g rfl (fun h => by simp_all))) rfl (RL.nil (CW.id ?_))
    refine CW.cond rfl (fun h => by simp at h) (fun hb3 => ?_)
    try simp only [zb, Bool.and_false] at hb3
    exact CW.skip fun a hs => ⟨(Eng.sub s q12 q19, (Eng.sub s q12 q19) == [], 0, q19), hs.keep [1, 2, 5, 6, 7, 8, 10, 11, 12], hS23, ⟨(by rw [read1]; simp only [← hq12, ← hc13, ← hq19, hb1n, if_true, if_false, reduceIte, beq_iff_eq, or_self, or_true, true_or, and_self, and_true, true_and, false_and, and_false, or_false, false_or, Bool.false_eq_true, not_true_eq_false, not_false_eq_true, beq_self_eq_true]; try simp only [hg29', if_true, if_false, reduceIte, beq_iff_eq, or_self, or_true, true_or, and_self, and_true, true_and, false_and, and_false, or_false, false_or, Bool.false_eq_true, not_true_eq_false, not_false_eq_true, beq_self_eq_true]), by omega, by (try rw [len_app]); omega, by omega⟩⟩
  ·rintro ⟨fg, bd, x, ba⟩ wm27 ⟨hS28, ⟨hA, hb0, hfl, hx0⟩⟩
   refine CW.sr (RL.u (.assign .c) rfl (RL.u (.assign .c) rfl (RL.nil (CW.id ?_))))
   refine CW.mid (σ := Str × Int × Bool × Int) (fun (pw, sd, bd2, bz) => [Y 1 (.pointer (some ⟨b2, 0, none⟩)), Y 2 (.pointer (some ⟨b5, 0, none⟩)), Y 5 (.pointer (some ⟨b8, 0, none⟩)), Y 8 (.bool c13), Y 10 (str fg), Y 11 (.bool bd2), Y 12 (i64 x), Y 14 (str pw), Y 15 (i64 sd)]) (fun (pw, sd, bd2, bz) wm43 => St w nM wm43 nM [.box b8 [(i64 bz)] 3, .box b2 [(str s)] 9, .box b5 [(i64 0), (i64 0), (str []), (str []), (.bool false), (i64 0)] 46] ∧ (read1 s = (if bd2 = true ∨ bz < len s then (noNd, bz, 1) else fin1 c13 fg x pw sd) ∧ (0 ≤ bz ∧ bz ≤ len s) ∧ len pw ≤ len s ∧ (∀ c ∈ pw, isFigB c = true) ∧ (sd = 1 ∨ sd = -1))) ?_ ?_
   ·refine CW.sr (RL.m rfl rfl (RL.u (.not (.t rfl)) rfl (RL.m rfl rfl (RL.v (.pos rfl rfl) (.move (.t rfl)) rfl ?_))))
    refine RL.split (.pos rfl rfl) rfl (fun hg45 => ?_) (fun hg45 => ?_)
    ·have hg45' := hg45
     try simp only [zb] at hg45'
     replace hS28 : St w nM wm27 nM [.box b8 [(i64 ba)] 3, .box b2 [(str s)] 9, .box b5 [(i64 0), (i64 0), (str []), (str []), (.bool false), (i64 0)] 46] := (hS28.front 1 rfl rfl).front 1 rfl rfl
     refine RL.callC (fs := []) (cs := [(.pointer (some ⟨b8, 0, none⟩)), (.pointer (some ⟨b2, 0, none⟩))]) Tryz.call118 (.g rfl (fun _ => hg45)) (.cons .c .nil) (is_q (Rs := [.box b5 [(i64 0), (i64 0), (str []), (str []), (.bool false), (i64 0)] 46]) s [101, 69] ba b8 b2 hS28 (by omega) (by omega) (by omega)) rfl ?_
     rintro v48 w49 ⟨q46, c47, hq46, hc47, hq46a, hq46b, hc47y, hc47n, rfl, hS51⟩
     replace hS51 : St w nM w49 nM [.box b8 [(i64 q46)] 3, .box b2 [(str s)] 9, .box b5 [(i64 0), (i64 0), (str []), (str []), (.bool false), (i64 0)] 46] := hS51
     refine RL.u (.and (.t rfl) (.t rfl)) rfl ?_
     refine RL.nil (CW.at [Y 1 (.pointer (some ⟨b2, 0, none⟩)), Y 2 (.pointer (some ⟨b5, 0, none⟩)), Y 5 (.pointer (some ⟨b8, 0, none⟩)), Y 6 (.func (.func 116) #[] #[(.pointer (some ⟨b8, 0, none⟩)), (.pointer (some ⟨b2, 0, none⟩))]), Y 7 (.func (.func 118) #[] #[(.pointer (some ⟨b8, 0, none⟩)), (.pointer (some ⟨b2, 0, none⟩))]), Y 8 (.bool c13), Y 10 (str fg), Y 11 (.bool bd), Y 12 (i64 x), Y 14 (str []), Y 15 (i64 1), Y 61 (.bool ((!bd) && c47))] rfl ?_)
     refine CW.cond rfl ?_ ?_ <;> intro hb4 <;> try simp only [zb, hb1, hg45', and_true, true_and, false_or, or_false, not_true_eq_false, not_false_eq_true] at hb4
     ·refine CW.mid (σ := Int × Int) (fun (sd1, bx) => [Y 1 (.pointer (some ⟨b2, 0, none⟩)), Y 2 (.pointer (some ⟨b5, 0, none⟩)), Y 5 (.pointer (some ⟨b8, 0, none⟩)), Y 6 (.func (.func 116) #[] #[(.pointer (some ⟨b8, 0, none⟩)), (.pointer (some ⟨b2, 0, none⟩))]), Y 8 (.bool c13), Y 10 (str fg), Y 12 (i64 x), Y 15 (i64 sd1)]) (fun (sd1, bx) wm53 => St w nM wm53 nM [.box b8 [(i64 bx)] 3, .box b2 [(str s)] 9, .box b5 [(i64 0), (i64 0), (str []), (str []), (.bool false), (i64 0)] 46] ∧ (bx = (if isAt s [45] q46 = true then isTo s [45] q46 else isTo s [43] (isTo s [45] q46)) ∧ sd1 = (if isAt s [45] q46 = true then -1 else 1) ∧ (0 ≤ bx ∧ bx ≤ len s))) ?_ ?_
      ·refine CW.sr (RL.m rfl rfl ?_)
       replace hS51 : St w nM w49 nM [.box b8 [(i64 q46)] 3, .box b2 [(str s)] 9, .box b5 [(i64 0), (i64 0), (str []), (str []), (.bool false), (i64 0)] 46] := (hS51.front 1 rfl rfl).front 1 rfl rfl
       refine RL.callC (fs := []) (cs := [(.pointer (some ⟨b8, 0, none⟩)), (.pointer (some ⟨b2, 0, none⟩))]) Tryz.call118 (.t rfl) (.cons .c .nil) (is_q (Rs := [.box b5 [(i64 0), (i64 0), (str []), (str []), (.bool false), (i64 0)] 46]) s [45] q46 b8 b2 hS51 (by omega) (by omega) (by omega)) rfl ?_
       rintro v57 w58 ⟨q55, c56, hq55, hc56, hq55a, hq55b, hc56y, hc56n, rfl, hS60⟩
       replace hS60 : St w nM w58 nM [.box b8 [(i64 q55)] 3, .box b2 [(str s)] 9, .box b5 [(i64 0), (i64 0), (str []), (str []), (.bool false), (i64 0)] 46] := hS60
       refine RL.nil (CW.at [Y 1 (.pointer (some ⟨b2, 0, none⟩)), Y 2 (.pointer (some ⟨b5, 0, none⟩)), Y 5 (.pointer (some ⟨b8, 0, none⟩)), Y 6 (.func (.func 116) #[] #[(.pointer (some ⟨b8, 0, none⟩)), (.pointer (some ⟨b2, 0, none⟩))]), Y 7 (.func (.func 118) #[] #[(.pointer (some ⟨b8, 0, none⟩)), (.pointer (some ⟨b2, 0, none⟩))]), Y 8 (.bool c13), Y 10 (str fg), Y 12 (i64 x), Y 15 (i64 1), Y 63 (.bool c56)] rfl ?_)
       refine CW.cond rfl ?_ ?_ <;> intro hb5 <;> try simp only [zb, hb1, hg45', hb4, and_true, true_and, false_or, or_false, not_true_eq_false, not_false_eq_true] at hb5
       ·refine CW.region (RL.u (.assign .c) rfl ?_)
        exact RL.nil fun a hs => ⟨((-1), q55), hs.keep [1, 2, 5, 6, 8, 10, 12, 15], hS60, ⟨by rw [← hc56, if_pos hb5]; exact hq55, by rw [← hc56, if_pos hb5], by omega⟩⟩
       ·refine CW.region (RL.m rfl rfl ?_)
        replace hS60 : St w nM w58 nM [.box b8 [(i64 q55)] 3, .box b2 [(str s)] 9, .box b5 [(i64 0), (i64 0), (str []), (str []), (.bool false), (i64 0)] 46] := (hS60.front 1 rfl rfl).front 1 rfl rfl
        refine RL.callC (fs := []) (cs := [(.pointer (some ⟨b8, 0, none⟩)), (.pointer (some ⟨b2, 0, none⟩))]) Tryz.call118 (.t rfl) (.cons .c .nil) (is_q (Rs := [.box b5 [(i64 0), (i64 0), (str []), (str []), (.bool false), (i64 0)] 46]) s [43] q55 b8 b2 hS60 (by omega) (by omega) (by omega)) rfl ?_
        rintro v64 w65 ⟨q62, c63, hq62, hc63, hq62a, hq62b, hc63y, hc63n, rfl, hS67⟩
        replace hS67 : St w nM w65 nM [.box b8 [(i64 q62)] 3, .box b2 [(str s)] 9, .box b5 [(i64 0), (i64 0), (str []), (str []), (.bool false), (i64 0)] 46] := hS67
        exact RL.nil fun a hs => ⟨(1, q62), hs.keep [1, 2, 5, 6, 8, 10, 12, 15], hS67, ⟨by rw [← hc56, if_neg (by simp [hb5]), ← hq55]; exact hq62, by rw [← hc56, if_neg (by simp [hb5])], by omega⟩⟩
      ·rintro ⟨sd1, bx⟩ wm53 ⟨hS54, ⟨hb1e, hsd1, hb10⟩⟩
       refine CW.sr (RL.m rfl rfl ?_)
       replace hS54 : St w nM wm53 nM [.box b8 [(i64 bx)] 3, .box b2 [(str s)] 9, .box b5 [(i64 0), (i64 0), (str []), (str []), (.bool false), (i64 0)] 46] := (hS54.front 1 rfl rfl).front 1 rfl rfl
       refine RL.callC (fs := []) (cs := [(.pointer (some ⟨b8, 0, none⟩)), (.pointer (some ⟨b2, 0, none⟩))]) Tryz.call116 (.t rfl) .nil (take_q (Rs := [.box b5 [(i64 0), (i64 0), (str []), (str []), (.bool false), (i64 0)] 46]) s bx b8 b2 hS54 (by omega) (by omega) (by omega)) rfl ?_
       rintro v70 w71 ⟨q69, hq69, hq69a, hq69b, hq69c, rfl, hS73⟩
       replace hS73 : St w nM w71 nM [.box b8 [(i64 q69)] 3, .box b2 [(str s)] 9, .box b5 [(i64 0), (i64 0), (str []), (str []), (.bool false), (i64 0)] 46] := hS73
       refine RL.a rfl rfl ?_
       refine RL.nil (CW.at [Y 1 (.pointer (some ⟨b2, 0, none⟩)), Y 2 (.pointer (some ⟨b5, 0, none⟩)), Y 5 (.pointer (some ⟨b8, 0, none⟩)), Y 8 (.bool c13), Y 10 (str fg), Y 12 (i64 x), Y 14 (str (Eng.sub s bx q69)), Y 15 (i64 sd1)] rfl ?_)
       refine CW.region (RL.m rfl rfl (RL.u (.seql (.t rfl) .c) rfl (RL.a rfl rfl ?_)))
       exact RL.nil fun a hs => ⟨(Eng.sub s bx q69, sd1, (Eng.sub s bx q69) == [], q69), hs.keep [1, 2, 5, 8, 10, 11, 12, 14, 15], hS73, ⟨(by rw [hA]; unfold rest1 exp1; simp only [← hq46, ← hc47, hg45', hb4, ← hb1e, ← hsd1, ← hq69, if_true, if_false, reduceIte, beq_iff_eq, or_self, or_true, true_or, and_self, and_true, true_and, false_and, and_false, or_false, false_or, Bool.false_eq_true, not_true_eq_false, not_false_eq_true, beq_self_eq_true]), by omega, by omega, (by rw [hq69]; exact figs_run (by omega)), by rw [hsd1]; split <;> omega⟩⟩
     ·exact CW.skip fun a hs => ⟨([], 1, bd, q46), hs.keep [1, 2, 5, 8, 10, 11, 12, 14, 15], hS51, ⟨(by rw [hA]; unfold rest1; simp only [← hq46, ← hc47, hg45', (show c47 = false from by simpa using hb4), if_true, if_false, reduceIte, beq_iff_eq, or_self, or_true, true_or, and_self, and_true, true_and, false_and, and_false, or_false, false_or, Bool.false_eq_true, not_true_eq_false, not_false_eq_true, beq_self_eq_true]), by omega, by rw [len_nil]; omega, (by intro c hc; cases hc), Or.inl rfl⟩⟩
    ·have hg45' := hg45
     try simp only [zb] at hg45'
     refine RL.u (.and (.t rfl) (.g rfl (fun h => by simp_all))) rfl (RL.nil (CW.id ?_))
     refine CW.cond rfl (fun h => by simp at h) (fun hb6 => ?_)
     try simp only [zb, Bool.and_false] at hb6
     exact CW.skip fun a hs => ⟨([], 1, bd, ba), hs.keep [1, 2, 5, 8, 10, 11, 12, 14, 15], hS28, ⟨(by rw [hA]; simp only [hg45', if_true, if_false, reduceIte, beq_iff_eq, or_self, or_true, true_or, and_self, and_true, true_and, false_and, and_false, or_false, false_or, Bool.false_eq_true, not_true_eq_false, not_false_eq_true, beq_self_eq_true]), by omega, by rw [len_nil]; omega, (by intro c hc; cases hc), Or.inl rfl⟩⟩
   ·rintro ⟨pw, sd, bd2, bz⟩ wm43 ⟨hS44, ⟨hB, hb20, hpl, hpf, hsd⟩⟩
    refine CW.seq (CW.sr (RL.m rfl rfl (RL.m rfl rfl (RL.v (.neg rfl rfl) (.loadB1 (v := (i64 bz)) hS44 extEq (i := 0) rfl (.t rfl) Tryz.isAgg3 rfl) rfl (RL.v (.neg rfl rfl) (.loadB1 (v := (str s)) hS44 extEq (i := 1) rfl (.t rfl) Tryz.isAgg9 rfl) rfl (RL.v (.neg rfl rfl) (.lenS (.g rfl (fun h => h)) Tryz.underlying9) rfl (RL.v (.neg rfl rfl) (.lss (.g rfl (fun h => h)) (.g rfl (fun h => h))) rfl (RL.u (.or (.t rfl) (.g rfl (fun h => h))) rfl (RL.nil (CW.id ?_))))))))))
    refine CW.cond rfl ?_ ?_ <;> intro hb7 <;> try simp only [zb, hb1, and_true, true_and, false_or, or_false, not_true_eq_false, not_false_eq_true] at hb7
    ·refine CW.seq (CW.weaken [1, 2, 5, 8, 10, 11, 12, 14, 15] (L' := [Y 1 (.pointer (some ⟨b2, 0, none⟩)), Y 2 (.pointer (some ⟨b5, 0, none⟩)), Y 5 (.pointer (some ⟨b8, 0, none⟩)), Y 8 (.bool c13), Y 10 (str fg), Y 11 (.bool bd2), Y 12 (i64 x), Y 14 (str pw), Y 15 (i64 sd)]) ?_ rfl)
     refine CW.regionF [.is true (.agg #[(i64 0), (i64 0), (str []), (str []), (.bool false), (i64 0)]), .is true (i64 bz), .any, .is true (i64 bz), .is true (i64 1)] hS44 tryz_mixed [1, 2, 5, 8, 10, 11, 12, 14, 15] rfl (by decide +kernel) (.cons ?_ (.cons ?_ (.cons ?_ (.cons ?_ (.cons ?_ (.nil)))))) ?_
     ·intro LL w75 M76 hle78 hS77 hK hD
      refine RL.u (.build (vs := []) (v := (.agg #[(i64 0), (i64 0), (str []), (str []), (.bool false), (i64 0)])) .nil (fun w => by kernel_rfl)) rfl ?_
      exact RL.nil (RA.next fun a hs => ⟨_, _, Mem.le.refl _, hS77, hs, _, _, rfl, rfl, rfl⟩)
     ·intro LL w79 M80 hle82 hS81 hK hD
      refine RL.u (.loadB1 (v := (i64 bz)) hS81 extEq (i := 0) rfl (.t (hK _ _ rfl)) Tryz.isAgg3 rfl) rfl ?_
      exact RL.nil (RA.next fun a hs => ⟨_, _, Mem.le.refl _, hS81, hs, _, _, rfl, rfl, rfl⟩)
     ·intro LL w83 M84 hle86 hS85 hK hD
      obtain ⟨g77, v77, hl77, rfl, rfl⟩ := hD 0 (by decide +kernel)
      obtain ⟨g77, v77, hl77, rfl, rfl⟩ := hD 0 (by decide +kernel)
      refine RL.st hS85 (i := 2) rfl (.t (hK _ _ rfl)) (.t hl77) Tryz.sizeOf46 rfl rfl rfl rfl rfl (fun w87 hS88 => ?_)
      exact RL.nil (RA.next fun a hs => ⟨_, _, Mem.le.refl _, hS88, hs, rfl⟩)
     ·intro LL w89 M90 hle92 hS91 hK hD
      obtain ⟨g78, v78, hl78, rfl, rfl⟩ := hD 1 (by decide +kernel)
      obtain ⟨g78, v78, hl78, rfl, rfl⟩ := hD 1 (by decide +kernel)
      refine RL.u (.assign (.t hl78)) rfl ?_
      exact RL.nil (RA.next fun a hs => ⟨_, _, Mem.le.refl _, hS91, hs, _, _, rfl, rfl, rfl⟩)
     ·intro LL w93 M94 hle96 hS95 hK hD
      refine RL.u (.assign .c) rfl ?_
      exact RL.nil (RA.next fun a hs => ⟨_, _, Mem.le.refl _, hS95, hs, _, _, rfl, rfl, rfl⟩)
     intro w97 M98 LL hle100 hS99 hK hD
     obtain ⟨g3, v3, hl3, rfl, rfl⟩ := hD 3 (by decide)
     obtain ⟨g4, v4, hl4, rfl, rfl⟩ := hD 4 (by decide)
     refine slots_sub (E := [Y 1 (.pointer (some ⟨b2, 0, none⟩)), Y 2 (.pointer (some ⟨b5, 0, none⟩)), Y 3 (i64 bz), Y 4 (i64 1), Y 5 (.pointer (some ⟨b8, 0, none⟩)), Y 8 (.bool c13), Y 10 (str fg), Y 11 (.bool bd2), Y 12 (i64 x), Y 14 (str pw), Y 15 (i64 sd)]) (.cons (hK _ _ rfl) (.cons (hK _ _ rfl) (.cons hl3 (.cons hl4 (.cons (hK _ _ rfl) (.cons (hK _ _ rfl) (.cons (hK _ _ rfl) (.cons (hK _ _ rfl) (.cons (hK _ _ rfl) (.cons (hK _ _ rfl) (.cons (hK _ _ rfl) .nil))))))))))) ?_
     replace hS99 : St w nM w97 M98 [.box b8 [(i64 bz)] 3, .box b2 [(str s)] 9, .box b5 [(i64 0), (i64 0), (str []), (str []), (.bool false), (i64 0)] 46] := hS99
     refine (CW.at [Y 2 (.pointer (some ⟨b5, 0, none⟩)), Y 3 (i64 bz), Y 4 (i64 1)] rfl ?_)
     refine CW.ret (hE.R3 rfl (.boxN hS99 (i := 2) rfl rfl Tryz.isAgg46 Tryz.sizeOf46) (show RV _ _ _ (.tmp _) _ from rfl) (show RV _ _ _ (.tmp _) _ from rfl) ?_)
     refine ⟨?_, hS99.low⟩
     have hr : read1 s = (⟨0, 0, [], [], false, 0⟩, bz, 1) := by rw [hB, if_pos hb7]; rfl
     rw [hr]
     try rfl
    ·refine CW.skip (CW.id (CW.sr (RL.m rfl rfl ?_)))
     refine RL.callE hS44 .none Tryz.call47 (.cons (.t rfl) (.cons .c .nil)) (fun _ => (trimLeft_c pw [48] _ (by decide) (cut_low (by decide)))) rfl (fun w101 hS102 => ?_)
     refine RL.a rfl rfl ?_
     refine RL.nil (CW.at [Y 2 (.pointer (some ⟨b5, 0, none⟩)), Y 8 (.bool c13), Y 10 (str fg), Y 12 (i64 x), Y 14 (str (dropZ pw)), Y 15 (i64 sd)] rfl (CW.seq (CW.sr (RL.m rfl rfl (RL.u (.lenS (.t rfl) Tryz.underlying9) rfl (RL.u (.gtr (.t rfl) .c) rfl (RL.nil (CW.id ?_))))))))
     refine CW.cond rfl ?_ ?_ <;> intro hb8 <;> try simp only [zb, hb1, hb7, and_true, true_and, false_or, or_false, not_true_eq_false, not_false_eq_true] at hb8
     ·refine CW.sr (RL.u (.build (vs := []) (v := (.agg #[(i64 0), (i64 0), (str []), (str []), (.bool false), (i64 0)])) .nil (fun w => by kernel_rfl)) rfl ?_)
      refine RL.st hS102 (i := 2) rfl (.t rfl) (.t rfl) Tryz.sizeOf46 rfl rfl rfl rfl rfl (fun w103 hS104 => ?_)
      refine RL.u (.assign .c) rfl (RL.u (.assign .c) rfl (RL.nil (CW.id ?_)))
      refine CW.ret (hE.R3 rfl (.boxN hS104 (i := 2) rfl rfl Tryz.isAgg46 Tryz.sizeOf46) (show RV _ _ _ (.tmp _) _ from rfl) (show RV _ _ _ (.tmp _) _ from rfl) ?_)
      refine ⟨?_, hS104.low⟩
      have hr : read1 s = (⟨0, 0, [], [], false, 0⟩, 0, 2) := by rw [hB, if_neg (not_or.2 (by simpa using hb7))]; unfold fin1; rw [if_pos hb8]; rfl
      rw [hr]
      try rfl
     ·refine CW.skip (CW.id (CW.sr (RL.m rfl rfl (RL.u (.sadd .c (.t rfl) (fun _ => by first | omega | (rcases hsd with rfl | rfl <;> omega) | (simp only [len_app, len_cons, len_nil] at *; omega))) rfl ?_))))
      have hv105 := atoi_figs (l := dropZ pw) (by first | exact figs_drop hpf | (refine figs_drop ?_; subst_vars; exact figs_run (by omega)) | (intro b hb; cases hb)) (by omega)
      refine RL.callE hS102 .none Tryz.call120 (.cons (.t rfl) .nil) (fun _ => (atoi_c ([48] ++ (dropZ pw)) (decVal (dropZ pw)) _ (by simp only [len_app, len_cons, len_nil] at *; omega) hv105.1)) rfl (fun w106 hS107 => ?_)
      refine RL.m rfl rfl (RL.u (.ex (.t rfl) rfl) rfl (RL.u (.ex (.t rfl) rfl) rfl (RL.a rfl rfl (RL.a rfl rfl ?_))))
      refine RL.nil (CW.at [Y 2 (.pointer (some ⟨b5, 0, none⟩)), Y 8 (.bool c13), Y 10 (str fg), Y 12 (i64 x), Y 15 (i64 sd), Y 16 (i64 (decVal (dropZ pw)))] rfl (CW.sr (RL.m rfl rfl (RL.m rfl rfl (RL.m rfl rfl (RL.m rfl rfl (RL.m rfl rfl (RL.u (.mul (.t rfl) (.t rfl) (fun _ => by first | omega | (rcases hsd with rfl | rfl <;> omega) | (simp only [len_app, len_cons, len_nil] at *; omega))) rfl (RL.u (.add (.t rfl) (.t rfl) (fun _ => by first | omega | (rcases hsd with rfl | rfl <;> omega) | (simp only [len_app, len_cons, len_nil] at *; omega))) rfl ?_)))))))))
      refine RL.callE hS107 .none Tryz.call121 (.cons (.t rfl) (.cons (.t rfl) (.cons (.t rfl) .nil))) (fun _ => (make_c c13 fg (x + (sd * (decVal (dropZ pw)))) _ (hg.low hS107.low) (by first | omega | (simp only [len_app] at *; omega)))) rfl (fun w108 hS109 => ?_)
      refine RL.m rfl rfl (RL.u (.ex (.t rfl) rfl) rfl (RL.u (.ex (.t rfl) rfl) rfl ?_))
      refine RL.alloc hS109 Tryz.zeroValue46 rfl (fun w110 b111 hS112 => ?_)
      refine RL.st hS112 (i := 0) rfl (.t rfl) (.t rfl) Tryz.sizeOf46 rfl rfl rfl rfl rfl (fun w113 hS114 => ?_)
      refine RL.a rfl rfl ?_
      refine RL.nil (CW.at [Y 2 (.pointer (some ⟨b5, 0, none⟩)), Y 18 (.pointer (some ⟨b111, 0, none⟩)), Y 19 (i64 ((mk1 c13 fg (x + (sd * (decVal (dropZ pw))))).2))] rfl (CW.sr (RL.u (.loadBN (vs := (ndC ((mk1 c13 fg (x + (sd * (decVal (dropZ pw))))).1) [])) hS114 extEq (i := 0) rfl (.t rfl) Tryz.isAgg46 Tryz.sizeOf46 rfl rfl) rfl (RL.m rfl rfl ?_))))
      refine RL.st hS114 (i := 3) rfl (.t rfl) (.t rfl) Tryz.sizeOf46 rfl rfl rfl rfl rfl (fun w115 hS116 => ?_)
      refine RL.u (.assign .c) rfl (RL.a rfl rfl (RL.nil (CW.id ?_)))
      refine CW.ret (hE.R3 rfl (.boxN hS116 (i := 3) rfl rfl Tryz.isAgg46 Tryz.sizeOf46) (show RV _ _ _ (.tmp _) _ from rfl) (show RV _ _ _ (.tmp _) _ from rfl) ?_)
      refine ⟨?_, hS116.low⟩
      have hr : read1 s = ((mk1 c13 fg (x + (sd * (decVal (dropZ pw))))).1, 0, (mk1 c13 fg (x + (sd * (decVal (dropZ pw))))).2) := by rw [hB, if_neg (not_or.2 (by simpa using hb7))]; unfold fin1; rw [if_neg (by omega)]
      rw [hr]
      try rfl

end Go.Proofs.YtmjpjbmeamnfpaaGreatDoor
namespace Go.Proofs.YtmjpjbmeamnfpaaGreatDoor
open Go.Eng Go.RowKit

abbrev tB := 163
set_option maxHeartbeats 1000000 in
set_option maxRecDepth 100000 in
theorem copy_used (b : Nat) (w : World) (h0 : w.cell? ⟨b, 0, none⟩ = some (.pointer (some ⟨b, 0, none⟩))) :
    Calls Tryz.prog 149 #[.pointer (some ⟨b, 0, none⟩)] w fun e w' => e = .returned (.tuple #[]) ∧ w' = w := by
  obtain ⟨j, hj, _⟩ := Option.map_eq_some_iff.1 (show (Tryz.prog.info? 163).map (·.size) = some 2 by kernel_rfl)
  have mixed : Tryz.prog.follows .mixedOrders = true := by kernel_rfl
  have u82 := fun w => run_underlying (P := Tryz.prog) (w := w) Tryz.underlying161
  go_enter Tryz.func149, Tryz.ntmps149
  go_wp2
  rw [Lib.run_neq_ptr_same w _ Tryz.underlying161 hj]
  go_wp2
  go_end0
  exact ⟨rfl, rfl⟩
set_option maxHeartbeats 1000000 in
set_option maxRecDepth 100000 in
theorem copy_fresh (b : Nat) (w : World) (h0 : w.cell? ⟨b, 0, none⟩ = some (.pointer none)) (hsh : w.shape? b = some (163, 2)) (hfz : w.frozen? ⟨b, 0, none⟩ = false) :
    Calls Tryz.prog 149 #[.pointer (some ⟨b, 0, none⟩)] w fun e w' => e = .returned (.tuple #[]) ∧ w' = w.setCell ⟨b, 0, none⟩ (.pointer (some ⟨b, 0, none⟩)) := by
  obtain ⟨j, hj, hjs⟩ := Option.map_eq_some_iff.1 (show (Tryz.prog.info? 163).map (·.size) = some 2 by kernel_rfl)
  have mixed : Tryz.prog.follows .mixedOrders = true := by kernel_rfl
  have u82 := fun w => run_underlying (P := Tryz.prog) (w := w) Tryz.underlying161
  go_enter Tryz.func149, Tryz.ntmps149
  go_wp2
  rw [Lib.run_to_unsafe w ⟨b, 0, none⟩ Tryz.underlying161 Tryz.underlying237 hj (by rw [hjs]; decide) hsh (Nat.zero_lt_succ 1)]
  simp only [Result.andThen]
  rw [Oper.upon_value]
  go_wp2
  rw [run_callFunc_extern Tryz.func197 (by kernel_rfl) (by kernel_rfl) (by kernel_rfl) (e := Extern.AbiNoEscape.same) (by kernel_rfl)]
  rw [Lib.run_noEscape]
  simp only [Result.andThen]
  rw [Oper.upon_value]
  go_wp2
  rw [Lib.run_from_unsafe w ⟨b, 0, none⟩ Tryz.underlying237 Tryz.underlying161 hj hsh (by kernel_rfl)]
  simp only [Result.andThen]
  rw [Oper.upon_value]
  go_wp2
  go_end0
  exact ⟨rfl, rfl⟩
end Go.Proofs.YtmjpjbmeamnfpaaGreatDoor
