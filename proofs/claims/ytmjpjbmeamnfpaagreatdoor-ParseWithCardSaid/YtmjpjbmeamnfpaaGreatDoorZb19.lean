/-
  PLAIN LEAN: signs among the bytes of an escape. No program in it.
-/
import Derived.Test.YtmjpjbmeamnfpaaGreatDoorZb4
import Derived.Laws.BitsLemmas
import Derived.Test.YtmjpjbmeamnfpaaGreatDoorZb3
import Derived.Test.YtmjpjbmeamnfpaaGreatDoorProg
import Derived.Test.YtmjpjbmeamnfpaaGreatDoorZb18
import Derived.Test.YtmjpjbmeamnfpaaGreatDoorZb10
import Derived.Test.YtmjpjbmeamnfpaaGreatDoorZb15
import Derived.Test.YtmjpjbmeamnfpaaGreatDoorZb14
import Derived.Test.YtmjpjbmeamnfpaaGreatDoorZb5
set_option linter.unusedVariables false
set_option linter.unusedSimpArgs false
set_option maxRecDepth 100000
namespace Go.Proofs.YtmjpjbmeamnfpaaGreatDoor
open Go.Eng

/- loupe/quote.short -/
theorem short_c {w wv : World} {M0 M : Mem} {Rs : List HO}  (hS : St w M0 wv M Rs)  :
  Calls Tryz.prog 147 [].toArray wv fun e w' => ∃ v, e = .returned v ∧ ∃ b, v = .map (some b) ∧ St w M0 w' M (.raw b (mobj .u8 shortKV 8) :: Rs) := by
 refine CW.enter1 Tryz.func147 rfl Tryz.ntmps147 (Nat.le_of_ble_eq_true rfl) fun Q hE => ?_
 refine CW.weaken [] (L' := []) ?_ rfl
 refine CW.sr (RL.u (.assign .c) rfl (RL.nil (CW.id (CW.sr ?_))))
 refine RL.makeMap .u8 hS rfl (fun w1 b2 hS3 => ?_)
 refine RL.insert (v := (.int .i32 34)) hS3 (i := 0) rfl (.t rfl) .c .c Tryz.underlying198 Tryz.underlying5 (l' := [⟨34, (.int .i32 34), 0⟩]) rfl (c' := 1) rfl (Hs' := (.raw b2 (mobj .u8 [⟨34, (.int .i32 34), 0⟩] 1) :: Rs)) rfl (fun w4 hS5 => ?_)
 refine RL.insert (v := (.int .i32 92)) hS5 (i := 0) rfl (.t rfl) .c .c Tryz.underlying198 Tryz.underlying5 (l' := [⟨34, (.int .i32 34), 0⟩, ⟨92, (.int .i32 92), 1⟩]) rfl (c' := 2) rfl (Hs' := (.raw b2 (mobj .u8 [⟨34, (.int .i32 34), 0⟩, ⟨92, (.int .i32 92), 1⟩] 2) :: Rs)) rfl (fun w6 hS7 => ?_)
 refine RL.insert (v := (.int .i32 47)) hS7 (i := 0) rfl (.t rfl) .c .c Tryz.underlying198 Tryz.underlying5 (l' := [⟨34, (.int .i32 34), 0⟩, ⟨92, (.int .i32 92), 1⟩, ⟨47, (.int .i32 47), 2⟩]) rfl (c' := 3) rfl (Hs' := (.raw b2 (mobj .u8 [⟨34, (.int .i32 34), 0⟩, ⟨92, (.int .i32 92), 1⟩, ⟨47, (.int .i32 47), 2⟩] 3) :: Rs)) rfl (fun w8 hS9 => ?_)
 refine RL.insert (v := (.int .i32 8)) hS9 (i := 0) rfl (.t rfl) .c .c Tryz.underlying198 Tryz.underlying5 (l' := [⟨34, (.int .i32 34), 0⟩, ⟨92, (.int .i32 92), 1⟩, ⟨47, (.int .i32 47), 2⟩, ⟨98, (.int .i32 8), 3⟩]) rfl (c' := 4) rfl (Hs' := (.raw b2 (mobj .u8 [⟨34, (.int .i32 34), 0⟩, ⟨92, (.int .i32 92), 1⟩, ⟨47, (.int .i32 47), 2⟩, ⟨98, (.int .i32 8), 3⟩] 4) :: Rs)) rfl (fun w10 hS11 => ?_)
 refine RL.insert (v := (.int .i32 12)) hS11 (i := 0) rfl (.t rfl) .c .c Tryz.underlying198 Tryz.underlying5 (l' := [⟨34, (.int .i32 34), 0⟩, ⟨92, (.int .i32 92), 1⟩, ⟨47, (.int .i32 47), 2⟩, ⟨98, (.int .i32 8), 3⟩, ⟨102, (.int .i32 12), 4⟩]) rfl (c' := 5) rfl (Hs' := (.raw b2 (mobj .u8 [⟨34, (.int .i32 34), 0⟩, ⟨92, (.int .i32 92), 1⟩, ⟨47, (.int .i32 47), 2⟩, ⟨98, (.int .i32 8), 3⟩, ⟨102, (.int .i32 12), 4⟩] 5) :: Rs)) rfl (fun w12 hS13 => ?_)
 refine RL.insert (v := (.int .i32 10)) hS13 (i := 0) rfl (.t rfl) .c .c Tryz.underlying198 Tryz.underlying5 (l' := [⟨34, (.int .i32 34), 0⟩, ⟨92, (.int .i32 92), 1⟩, ⟨47, (.int .i32 47), 2⟩, ⟨98, (.int .i32 8), 3⟩, ⟨102, (.int .i32 12), 4⟩, ⟨110, (.int .i32 10), 5⟩]) rfl (c' := 6) rfl (Hs' := (.raw b2 (mobj .u8 [⟨34, (.int .i32 34), 0⟩, ⟨92, (.int .i32 92), 1⟩, ⟨47, (.int .i32 47), 2⟩, ⟨98, (.int .i32 8), 3⟩, ⟨102, (.int .i32 12), 4⟩, ⟨110, (.int .i32 10), 5⟩] 6) :: Rs)) rfl (fun w14 hS15 => ?_)
 refine RL.insert (v := (.int .i32 13)) hS15 (i := 0) rfl (.t rfl) .c .c Tryz.underlying198 Tryz.underlying5 (l' := [⟨34, (.int .i32 34), 0⟩, ⟨92, (.int .i32 92), 1⟩, ⟨47, (.int .i32 47), 2⟩, ⟨98, (.int .i32 8), 3⟩, ⟨102, (.int .i32 12), 4⟩, ⟨110, (.int .i32 10), 5⟩, ⟨114, (.int .i32 13), 6⟩]) rfl (c' := 7) rfl (Hs' := (.raw b2 (mobj .u8 [⟨34, (.int .i32 34), 0⟩, ⟨92, (.int .i32 92), 1⟩, ⟨47, (.int .i32 47), 2⟩, ⟨98, (.int .i32 8), 3⟩, ⟨102, (.int .i32 12), 4⟩, ⟨110, (.int .i32 10), 5⟩, ⟨114, (.int .i32 13), 6⟩] 7) :: Rs)) rfl (fun w16 hS17 => ?_)
 refine RL.insert (v := (.int .i32 9)) hS17 (i := 0) rfl (.t rfl) .c .c Tryz.underlying198 Tryz.underlying5 (l' := [⟨34, (.int .i32 34), 0⟩, ⟨92, (.int .i32 92), 1⟩, ⟨47, (.int .i32 47), 2⟩, ⟨98, (.int .i32 8), 3⟩, ⟨102, (.int .i32 12), 4⟩, ⟨110, (.int .i32 10), 5⟩, ⟨114, (.int .i32 13), 6⟩, ⟨116, (.int .i32 9), 7⟩]) rfl (c' := 8) rfl (Hs' := (.raw b2 (mobj .u8 [⟨34, (.int .i32 34), 0⟩, ⟨92, (.int .i32 92), 1⟩, ⟨47, (.int .i32 47), 2⟩, ⟨98, (.int .i32 8), 3⟩, ⟨102, (.int .i32 12), 4⟩, ⟨110, (.int .i32 10), 5⟩, ⟨114, (.int .i32 13), 6⟩, ⟨116, (.int .i32 9), 7⟩] 8) :: Rs)) rfl (fun w18 hS19 => ?_)
 refine RL.m rfl rfl (RL.a rfl rfl (RL.nil (CW.id ?_)))
 refine CW.ret (hE.r1 rfl rfl ?_)
 exact ⟨_, rfl, _, rfl, hS19⟩

/- loupe/quote.letters -/
theorem letters_c {w wv : World} {M0 M : Mem} {Rs : List HO}  (hS : St w M0 wv M Rs)  :
  Calls Tryz.prog 281 [].toArray wv fun e w' => ∃ v, e = .returned v ∧ ∃ b l c, v = .map (some b) ∧ (∀ r, (kget l r).getD (.int .u8 0) = .int .u8 (letV r) ∧ (kget l r).isSome = letIs r) ∧ St w M0 w' M (.raw b (mobj .i32 l c) :: Rs) := by
 refine CW.enter1 Tryz.func281 rfl Tryz.ntmps281 (Nat.le_of_ble_eq_true rfl) fun Q hE => ?_
 refine CW.weaken [] (L' := []) ?_ rfl
 refine CW.sr (RL.u (.assign .c) rfl (RL.nil (CW.id (CW.sr ?_))))
 refine RL.makeMap .i32 hS rfl (fun w1 b2 hS3 => ?_)
 refine RL.a rfl rfl (RL.nil (CW.id ?_))
 refine CW.seq (CW.sr ?_)
 refine RL.callP Tryz.call147 .nil (short_c (Rs := (.raw b2 (mobj .i32 [] 0) :: Rs)) hS3) rfl ?_
 rintro v5 w6 ⟨mb4, rfl, hS8⟩
 refine RL.rangeM hS8 (i := 0) rfl (.t rfl) Tryz.underlying198 rfl (fun w10 b11 hS12 => ?_)
 refine RL.nil (CW.at [Y 1 (.map (some b2)), Y 6 (.pointer (some ⟨b11, 0, none⟩))] rfl (CW.block ?_))
 refine CW.loop (σ := Array Nat × Nat × List KV × Nat) (fun (seen, c0, l, c) => [Y 1 (.map (some b2)), Y 6 (.pointer (some ⟨b11, 0, none⟩))]) (fun (seen, c0, l, c) wl => St w M0 wl M (.raw b11 (.mapIter (some mb4) 8 seen c0) :: .raw mb4 (mobj .u8 shortKV 8) :: .raw b2 (mobj .i32 l c) :: Rs) ∧ 8 ≤ c0 ∧ Lets seen l) (fun (seen, c0, l, c) => (shortKV.filter (fun q => !seen.contains q.born)).length) ((#[], 8, [], 0)) [1, 6] rfl ?_ ?_
 ·refine ⟨hS12, ?_⟩; exact ⟨Nat.le_refl _, lets_start⟩
 ·rintro ⟨seen, c0, l, c⟩ wl ⟨hS13, h8, hL⟩
  refine CW.sr ?_
  refine RL.nextM (l := shortKV) hS13 (i := 1) (j := 0) rfl rfl (.t rfl) short_hold h8 rfl (fun p16 hp17 hns18 w14 hS15 => ?_) (fun hall => ?_)
  ·replace hS15 : St w M0 w14 M (.raw b11 (.mapIter (some mb4) 8 (seen.push p16.born) 8) :: .raw mb4 (mobj .u8 shortKV 8) :: .raw b2 (mobj .i32 l c) :: Rs) := hS15
   refine RL.u (.ex (.t rfl) rfl) rfl (RL.nil (CW.id ?_))
   refine CW.seq (CW.cond rfl (fun _ => ?_) (fun h => by cases h))
   refine CW.skip (CW.id (CW.block (CW.sr (RL.u (.entryV (k := .u8) (u := (.int .i32 (rOf p16))) hS15 extEq (i := 1) (j := 0) rfl rfl (.t rfl) hp17 short_nodup (short_val _ hp17)) rfl (RL.u (.ex (.t rfl) rfl) rfl (RL.u (.ex (.t rfl) rfl) rfl (RL.a rfl rfl (RL.a rfl rfl (RL.nil (CW.id ?_))))))))))
   refine CW.region (RL.m rfl rfl (RL.m rfl rfl (RL.m rfl rfl ?_)))
   refine RL.mapUpd (v := (.int .u8 p16.key)) hS15 (i := 2) rfl (.t rfl) (.t rfl) (.t rfl) Tryz.underlying310 Tryz.underlying21 (l' := (kset l c (rOf p16) (.int .u8 p16.key))) rfl (c' := (kclk l c (rOf p16) (.int .u8 p16.key))) rfl (Hs' := (.raw b11 (.mapIter (some mb4) 8 (seen.push p16.born) 8) :: .raw mb4 (mobj .u8 shortKV 8) :: .raw b2 (mobj .i32 (kset l c (rOf p16) (.int .u8 p16.key)) (kclk l c (rOf p16) (.int .u8 p16.key))) :: Rs)) rfl (fun w19 hS20 => ?_)
   refine RL.nil fun a hs => Exists.intro (((seen.push p16.born), 8, (kset l c (rOf p16) (.int .u8 p16.key)), (kclk l c (rOf p16) (.int .u8 p16.key)))) ⟨hs.keep [1, 6], ?_, ?_⟩
   ·refine ⟨hS20, ?_⟩
    exact ⟨by omega, Lets.step hL (by assumption) (by assumption)⟩
   ·exact lets_meas (by assumption) (by assumption)
  ·refine RL.u (.ex (.t rfl) rfl) rfl (RL.nil (CW.id ?_))
   refine CW.seq (CW.cond rfl (fun h => by cases h) (fun _ => (CW.exit (CW.at [Y 1 (.map (some b2))] rfl (CW.sr ?_)))))
   refine RL.m rfl rfl ?_
   refine RL.delete hS13 (i := 2) rfl (.t rfl) .c Tryz.underlying310 Tryz.underlying21 (l' := (kdel l 47)) rfl (Hs' := (.raw b11 (.mapIter (some mb4) 8 seen c0) :: .raw mb4 (mobj .u8 shortKV 8) :: .raw b2 (mobj .i32 (kdel l 47) c) :: Rs)) rfl (fun w21 hS22 => (RL.nil (CW.id ?_)))
   refine CW.sr (RL.m rfl rfl (RL.a rfl rfl (RL.nil (CW.id (CW.ret (hE.r1 rfl rfl ?_))))))
   replace hS22 := (hS22.erase 1 rfl).erase 0 rfl
   exact ⟨_, rfl, _, _, _, rfl, letG_end hL hall, hS22⟩

theorem string_c {w wv : World} {M0 M : Mem} {Rs : List HO} (b : Nat) (a v : Value) (bs : Str) (l : List Int) (hS : St w M0 wv M (.box b [a, v] 163 :: .own 5 1 v (l).length ((l).flatMap u8I) :: Rs)) (ha : a = .pointer none ∨ a = selfP b) (hl : l = ints bs) :
    Calls Tryz.prog 110 [.pointer (some ⟨b, 0, none⟩)].toArray wv fun e w' => ∃ v, e = .returned v ∧ v = str bs ∧ Ext w w' := by
  subst hl
  have hb := hS.obj (i := 0) rfl
  have ho := (hS.obj (i := 1) rfl).1
  have hne : v.ownBlock ≠ some b := by
    have := hS.apart
    rw [List.pairwise_cons] at this
    exact this.1 (HO.own 5 1 v (ints bs).length ((ints bs).flatMap u8I)) (by simp) b rfl
  have e1 : (ints bs).flatMap u8I = Lib.byteCells bs := by rw [flat_u8I]; unfold ints; rw [List.map_map]; rfl
  have e2 : (ints bs).length = (Lib.byteCells bs).length := by rw [← e1, flat_len u8I 1 u8I_len, Nat.mul_one]
  rw [e1, e2] at ho
  have hB : ∀ a', a = a' → Lib.BuilderAt 163 5 w.heap.size b a' (Lib.byteCells bs) wv := fun a' h => ⟨hb.1, v, h ▸ hb.2.1, ho, hne⟩
  refine (Tryz.Builder_String_any w.heap.size b bs wv ?_ hS.size).mono fun e w' ⟨he, hw⟩ => ⟨_, he, rfl, hS.low.trans hw⟩
  rcases ha with h | h
  · exact .inl (hB _ h)
  · exact .inr (hB _ h)
/- internal/strconv.isPowerOfTwo -/
theorem ip2_c  (w : World)  :
  Calls Tryz.prog 314 [(i64 16)].toArray w fun e w' => e = .returned (.bool true) ∧ w' = w := by
 refine CW.enter1 Tryz.func314 rfl Tryz.ntmps314 (Nat.le_of_ble_eq_true rfl) fun Q hE => ?_
 refine CW.weaken [0] (L' := [Y 0 (i64 16)]) ?_ rfl
 refine CW.sr (RL.u (.assign .c) rfl (RL.nil (CW.id (CW.sr ?_))))
 refine RL.m rfl rfl (RL.m rfl rfl (RL.u (.bin (v := .int .i64 15) (.t rfl) .c (fun _ w _ => by kernel_rfl)) rfl (RL.u (.bin (v := .int .i64 0) (.t rfl) (.t rfl) (fun _ w _ => by kernel_rfl)) rfl (RL.u (.eql (.t rfl) .c) rfl (RL.a rfl rfl (RL.nil (CW.id ?_)))))))
 refine CW.ret (hE.r1 rfl rfl ?_)
 exact ⟨rfl, rfl⟩

/- math/bits.TrailingZeros64 -/
theorem tz64_c  (w : World) (hg : Gl w) :
  Calls Tryz.prog 320 [(.int .u64 16)].toArray w fun e w' => e = .returned (i64 4) ∧ w' = w := by
 refine CW.enter1 Tryz.func320 rfl Tryz.ntmps320 (Nat.le_of_ble_eq_true rfl) fun Q hE => ?_
 refine CW.weaken [0] (L' := [Y 0 (.int .u64 16)]) ?_ rfl
 refine CW.sr (RL.u (.assign .c) rfl (RL.nil (CW.id (CW.seq ?_))))
 refine CW.sr (RL.m rfl rfl (RL.u (.eql (.t rfl) .c) rfl (RL.nil (CW.id (CW.cond rfl (fun h => by cases h) (fun _ => ?_))))))
 refine CW.skip (CW.id (CW.sr (RL.m rfl rfl (RL.m rfl rfl (RL.u (.negK (r := 18446744073709551600) (.t rfl) (fun _ => by decide)) rfl (RL.u (.bin (v := .int .u64 16) (.t rfl) (.t rfl) (fun _ w _ => by kernel_rfl)) rfl (RL.u (.bin (v := .int .u64 4573923408821661840) (.t rfl) .c (fun _ w _ => by kernel_rfl)) rfl (RL.u (.bin (v := .int .u64 15) (.t rfl) .c (fun _ w _ => by kernel_rfl)) rfl (RL.u (.idxA 15 .gl (.t rfl) Tryz.underlying340 Tryz.sizeOf5 (fun _ => rfl) rfl) rfl (RL.u (.load1 (v := (.int .u8 4)) (.t rfl) Tryz.isAgg5 (fun _ w0 h0 => h0 ▸ hg.deb)) rfl (RL.u (.cvtK (r := 4) (.t rfl) Tryz.underlying5 Tryz.underlying3 (fun _ => by exact Eng.wrap_i64 (by omega))) rfl (RL.a rfl rfl (RL.nil (CW.id ?_))))))))))))))
 refine CW.ret (hE.r1 rfl rfl ?_)
 exact ⟨rfl, rfl⟩

/- math/bits.TrailingZeros -/
theorem tz_c  (w : World) (hg : Gl w) :
  Calls Tryz.prog 315 [(.int .u64 16)].toArray w fun e w' => e = .returned (i64 4) ∧ w' = w := by
 refine CW.enter1 Tryz.func315 rfl Tryz.ntmps315 (Nat.le_of_ble_eq_true rfl) fun Q hE => ?_
 refine CW.weaken [0] (L' := [Y 0 (.int .u64 16)]) ?_ rfl
 refine CW.sr (RL.u (.assign .c) rfl (RL.nil (CW.id (CW.seq ?_))))
 refine CW.condC (fun hb1 => ?_) (fun hb1 => ?_)
 ·try simp only [zb] at hb1
  first | done | cases hb1
 ·try simp only [zb] at hb1
  refine CW.skip (CW.id (CW.sr (RL.m rfl rfl ?_)))
  refine RL.callS .none Tryz.call320 (.cons (.t rfl) .nil) (fun _ => (tz64_c _ hg)) rfl ?_
  refine RL.a rfl rfl ?_
  refine RL.nil (CW.at [Y 2 (i64 4)] rfl (CW.ret (hE.r1 rfl rfl ?_)))
  exact ⟨rfl, rfl⟩

/- internal/strconv.formatBits -/
theorem fbits_c (r : Int) (q : Bool) (w : World) (hg : Gl w) (h : 0 ≤ r ∧ r < 32) (hq : q = false) :
  Calls Tryz.prog 310 [(.slice none 0 0), (.int .u64 (r + 256)), (i64 16), (.bool q), (.bool false)].toArray w fun e w' => e = .returned (.tuple #[(.slice none 0 0), (str ([49, (hexD (r / 16)).toNat.toUInt8, (hexD (r % 16)).toNat.toUInt8]))]) ∧ Ext w w' := by
 refine CW.enter1 Tryz.func310 rfl Tryz.ntmps310 (Nat.le_of_ble_eq_true rfl) fun Q hE => ?_
 have hS : St w nM w nM [] := St.start ⟨fun _ _ _ h => by cases h⟩
 refine CW.weaken [0, 1, 2, 3, 4] (L' := [Y 0 (.slice none 0 0), Y 1 (.int .u64 (r + 256)), Y 2 (i64 16), Y 3 (.bool q), Y 4 (.bool false)]) ?_ rfl
 refine CW.sr (RL.u (.assign .c) rfl (RL.u (.assign .c) rfl (RL.nil (CW.id (CW.seq ?_)))))
 refine CW.sr (RL.m rfl rfl (RL.u (.lss (.t rfl) .c) rfl (RL.m rfl rfl (RL.v (.neg rfl rfl) (.move (.t rfl)) rfl (RL.v (.neg rfl rfl) (.eql (.g rfl (fun h => h)) .c) rfl (RL.u (.or (.t rfl) (.g rfl (fun h => h))) rfl (RL.m rfl rfl (RL.v (.neg rfl rfl) (.move (.t rfl)) rfl (RL.v (.neg rfl rfl) (.gtr (.g rfl (fun h => h)) .c) rfl (RL.u (.or (.t rfl) (.g rfl (fun h => h))) rfl (RL.nil (CW.id ?_))))))))))))
 refine CW.cond rfl (fun h => by cases h) (fun _ => ?_)
 refine CW.skip (CW.id (CW.sr ?_))
 refine RL.alloc hS Tryz.zeroValue331 rfl (fun w1 b2 hS3 => (RL.nil (CW.id ?_)))
 refine CW.sr (RL.u (.assign .c) rfl (RL.nil (CW.id (CW.seq ?_))))
 refine CW.sr (RL.m rfl rfl (RL.nil (CW.id ?_)))
 refine CW.cond rfl ?_ ?_ <;> intro hb2 <;> try simp only [zb] at hb2
 ·exfalso; rw [hq] at hb2; first | done | cases hb2
 ·refine CW.skip (CW.id (CW.seq (CW.sr (RL.m rfl rfl ?_))))
  refine RL.callS .none Tryz.call314 (.cons (.t rfl) .nil) (fun _ => (ip2_c _)) rfl ?_
  refine RL.nil (CW.at [Y 0 (.slice none 0 0), Y 1 (.int .u64 (r + 256)), Y 2 (i64 16), Y 3 (.bool q), Y 4 (.bool false), Y 10 (.slice none 0 0), Y 11 (str []), Y 12 (.pointer (some ⟨b2, 0, none⟩)), Y 13 (i64 65), Y 34 (.bool true)] rfl (CW.cond rfl (fun _ => ?_) (fun h => by cases h)))
  refine CW.sr (RL.m rfl rfl (RL.u (.cvtK (r := 16) (.t rfl) Tryz.underlying3 Tryz.underlying192 (fun _ => by exact Eng.wrap_u64 (by omega))) rfl ?_))
  refine RL.callS .none Tryz.call315 (.cons (.t rfl) .nil) (fun _ => (tz_c _ (hg.low hS3.low))) rfl ?_
  refine RL.u (.cvtK (r := 4) (.t rfl) Tryz.underlying3 Tryz.underlying192 (fun _ => by exact Eng.wrap_u64 (by omega))) rfl (RL.a rfl rfl ?_)
  refine RL.nil (CW.at [Y 0 (.slice none 0 0), Y 1 (.int .u64 (r + 256)), Y 2 (i64 16), Y 3 (.bool q), Y 4 (.bool false), Y 10 (.slice none 0 0), Y 11 (str []), Y 12 (.pointer (some ⟨b2, 0, none⟩)), Y 13 (i64 65), Y 14 (.int .u64 4)] rfl (CW.sr (RL.m rfl rfl (RL.u (.cvtK (r := 16) (.t rfl) Tryz.underlying3 Tryz.underlying230 (fun _ => by exact Eng.wrap_u64 (by omega))) rfl (RL.a rfl rfl (RL.nil (CW.id ?_)))))))
  refine CW.sr (RL.m rfl rfl (RL.u (.cvtK (r := 16) (.t rfl) Tryz.underlying3 Tryz.underlying192 (fun _ => by exact Eng.wrap_u64 (by omega))) rfl (RL.u (.bin (v := .int .u64 15) (.t rfl) .c (fun _ w _ => by kernel_rfl)) rfl (RL.a rfl rfl (RL.nil (CW.id (CW.seq ?_)))))))
  refine CW.block ?_
  refine CW.unroll 3 ?_
  refine CW.seq (CW.sr (RL.m rfl rfl (RL.m rfl rfl (RL.u (.geq (.t rfl) (.t rfl)) rfl (RL.nil (CW.id ?_))))))
  refine CW.cond rfl ?_ ?_ <;> intro hb4 <;> try simp only [zb] at hb4
  ·refine CW.skip (CW.id (CW.block (CW.sr (RL.m rfl rfl (RL.u (.bin (v := .int .i64 64) (.t rfl) .c (fun _ w _ => by kernel_rfl)) rfl (RL.a rfl rfl (RL.nil (CW.id ?_))))))))
   refine CW.sr (RL.m rfl rfl (RL.m rfl rfl (RL.m rfl rfl (RL.u (.bin (v := .int .u64 ((r + 256) % 16)) (.t rfl) (.t rfl) (fun hW w _ => by simp [go_sem, binOp]; first | exact u64_and15 (r + 256) (by omega) (by omega) | (have hB := u64_and15 (r + 256) (by omega) (by omega); omega))) rfl (RL.u (.idxS .c (.t rfl) Tryz.underlying9 (fun _ => by first | omega | (simp only [len_cons, len_nil]; omega))) rfl (RL.u (.idxA 64 (.t rfl) (.t rfl) Tryz.underlying331 Tryz.sizeOf5 (fun _ => rfl) rfl) rfl ?_))))))
   refine RL.st hS3 (i := 0) rfl (.t rfl) (.t rfl) Tryz.sizeOf5 rfl rfl rfl rfl rfl (fun w4 hS5 => (RL.nil (CW.id ?_)))
   refine CW.region (RL.m rfl rfl (RL.m rfl rfl (RL.u (.bin (v := .int .u64 ((r + 256) / 16)) (.t rfl) (.t rfl) (fun _ w _ => by simp [go_sem, binOp])) rfl (RL.a rfl rfl (RL.nil (CW.round [0, 1, 3, 4, 10, 11, 12, 13, 14, 15, 16] (L' := [Y 0 (.slice none 0 0), Y 1 (.int .u64 ((r + 256) / 16)), Y 3 (.bool q), Y 4 (.bool false), Y 10 (.slice none 0 0), Y 11 (str []), Y 12 (.pointer (some ⟨b2, 0, none⟩)), Y 13 (i64 64), Y 14 (.int .u64 4), Y 15 (.int .u64 16), Y 16 (.int .u64 15)]) rfl (CW.seq ?_)))))))
   refine CW.sr (RL.m rfl rfl (RL.m rfl rfl (RL.u (.geq (.t rfl) (.t rfl)) rfl (RL.nil (CW.id ?_)))))
   refine CW.cond rfl ?_ ?_ <;> intro hb5 <;> try simp only [zb] at hb5
   ·refine CW.skip (CW.id (CW.block (CW.sr (RL.m rfl rfl (RL.u (.bin (v := .int .i64 63) (.t rfl) .c (fun _ w _ => by kernel_rfl)) rfl (RL.a rfl rfl (RL.nil (CW.id ?_))))))))
    refine CW.sr (RL.m rfl rfl (RL.m rfl rfl (RL.m rfl rfl (RL.u (.bin (v := .int .u64 (((r + 256) / 16) % 16)) (.t rfl) (.t rfl) (fun hW w _ => by simp [go_sem, binOp]; first | exact u64_and15 ((r + 256) / 16) (by omega) (by omega) | (have hB := u64_and15 ((r + 256) / 16) (by omega) (by omega); omega))) rfl (RL.u (.idxS .c (.t rfl) Tryz.underlying9 (fun _ => by first | omega | (simp only [len_cons, len_nil]; omega))) rfl (RL.u (.idxA 63 (.t rfl) (.t rfl) Tryz.underlying331 Tryz.sizeOf5 (fun _ => rfl) rfl) rfl ?_))))))
    refine RL.st hS5 (i := 0) rfl (.t rfl) (.t rfl) Tryz.sizeOf5 rfl rfl rfl rfl rfl (fun w6 hS7 => (RL.nil (CW.id ?_)))
    refine CW.region (RL.m rfl rfl (RL.m rfl rfl (RL.u (.bin (v := .int .u64 (((r + 256) / 16) / 16)) (.t rfl) (.t rfl) (fun _ w _ => by simp [go_sem, binOp])) rfl (RL.a rfl rfl (RL.nil (CW.round [0, 1, 3, 4, 10, 11, 12, 13, 14, 15, 16] (L' := [Y 0 (.slice none 0 0), Y 1 (.int .u64 (((r + 256) / 16) / 16)), Y 3 (.bool q), Y 4 (.bool false), Y 10 (.slice none 0 0), Y 11 (str []), Y 12 (.pointer (some ⟨b2, 0, none⟩)), Y 13 (i64 63), Y 14 (.int .u64 4), Y 15 (.int .u64 16), Y 16 (.int .u64 15)]) rfl (CW.seq ?_)))))))
    refine CW.sr (RL.m rfl rfl (RL.m rfl rfl (RL.u (.geq (.t rfl) (.t rfl)) rfl (RL.nil (CW.id ?_)))))
    refine CW.cond rfl ?_ ?_ <;> intro hb6 <;> try simp only [zb] at hb6
    ·exfalso; omega
    ·refine CW.exit (CW.at [Y 0 (.slice none 0 0), Y 1 (.int .u64 (((r + 256) / 16) / 16)), Y 3 (.bool q), Y 4 (.bool false), Y 10 (.slice none 0 0), Y 11 (str []), Y 12 (.pointer (some ⟨b2, 0, none⟩)), Y 13 (i64 63)] rfl ?_)
     refine CW.sr (RL.m rfl rfl (RL.u (.bin (v := .int .i64 62) (.t rfl) .c (fun _ w _ => by kernel_rfl)) rfl (RL.a rfl rfl (RL.nil (CW.id ?_)))))
     refine CW.region (RL.m rfl rfl (RL.m rfl rfl (RL.u (.idxS .c (.t rfl) Tryz.underlying9 (fun _ => by first | omega | (simp only [len_cons, len_nil]; omega))) rfl (RL.u (.idxA 62 (.t rfl) (.t rfl) Tryz.underlying331 Tryz.sizeOf5 (fun _ => rfl) rfl) rfl ?_))))
     refine RL.st hS7 (i := 0) rfl (.t rfl) (.t rfl) Tryz.sizeOf5 rfl rfl rfl rfl rfl (fun w8 hS9 => (RL.nil (CW.id ?_)))
     refine CW.seq (CW.sr (RL.m rfl rfl (RL.nil (CW.id ?_))))
     refine CW.cond rfl ?_ ?_ <;> intro hb7 <;> try simp only [zb] at hb7
     ·exfalso; rw [hq] at hb7; first | done | cases hb7
     ·refine CW.skip (CW.id (CW.seq (CW.sr (RL.m rfl rfl (RL.nil (CW.id ?_))))))
      refine CW.cond rfl (fun h => by cases h) (fun _ => ?_)
      refine CW.skip (CW.id (CW.sr (RL.m rfl rfl (RL.u (.slA 62 3 (.t rfl) (.t rfl) Tryz.underlying331 Tryz.sizeOf5 (fun _ => rfl) rfl rfl) rfl (RL.u (.b2sA (l := [byteAt [48, 49, 50, 51, 52, 53, 54, 55, 56, 57, 97, 98, 99, 100, 101, 102, 103, 104, 105, 106, 107, 108, 109, 110, 111, 112, 113, 114, 115, 116, 117, 118, 119, 120, 121, 122] (((r + 256) / 16) / 16), byteAt [48, 49, 50, 51, 52, 53, 54, 55, 56, 57, 97, 98, 99, 100, 101, 102, 103, 104, 105, 106, 107, 108, 109, 110, 111, 112, 113, 114, 115, 116, 117, 118, 119, 120, 121, 122] (((r + 256) / 16) % 16), byteAt [48, 49, 50, 51, 52, 53, 54, 55, 56, 57, 97, 98, 99, 100, 101, 102, 103, 104, 105, 106, 107, 108, 109, 110, 111, 112, 113, 114, 115, 116, 117, 118, 119, 120, 121, 122] ((r + 256) % 16)]) hS9 extEq (i := 0) rfl (.t rfl) rfl rfl Tryz.underlying110 Tryz.underlying5 Tryz.underlying9) rfl (RL.a rfl rfl (RL.nil (CW.id ?_))))))))
      refine CW.ret (hE.r2 rfl rfl rfl ?_)
      have d1 := digs_at (n := (r + 256) % 16) (by omega) (by omega)
      have d2 := digs_at (n := (r + 256) / 16 % 16) (by omega) (by omega)
      have d3 : (r + 256) / 16 / 16 = 1 := by omega
      have d4 : (r + 256) % 16 = r % 16 := by omega
      have d5 : (r + 256) / 16 % 16 = r / 16 := by omega
      refine ⟨congrArg (fun z => Ending.returned (.tuple #[.slice none 0 0, str z])) ?_, hS9.low⟩
      rw [d3, d2, d1, d4, d5]; rfl
   ·exfalso; omega
  ·exfalso; omega

/- internal/strconv.FormatInt -/
theorem fmtI_c (r : Int) (w : World) (hg : Gl w) (h : 0 ≤ r ∧ r < 32) :
  Calls Tryz.prog 297 [(i64 (r + 256)), (i64 16)].toArray w fun e w' => e = .returned (str ([49, (hexD (r / 16)).toNat.toUInt8, (hexD (r % 16)).toNat.toUInt8])) ∧ Ext w w' := by
 refine CW.enter1 Tryz.func297 rfl Tryz.ntmps297 (Nat.le_of_ble_eq_true rfl) fun Q hE => ?_
 have hS : St w nM w nM [] := St.start ⟨fun _ _ _ h => by cases h⟩
 refine CW.weaken [0, 1] (L' := [Y 0 (i64 (r + 256)), Y 1 (i64 16)]) ?_ rfl
 refine CW.sr (RL.u (.assign .c) rfl (RL.nil (CW.id (CW.seq ?_))))
 refine CW.sr (RL.m rfl rfl (RL.u (.eql (.t rfl) .c) rfl (RL.nil (CW.id (CW.cond rfl (fun h => by cases h) (fun _ => ?_))))))
 refine CW.skip (CW.id (CW.sr (RL.m rfl rfl (RL.u (.cvtK (r := r + 256) (.t rfl) Tryz.underlying2 Tryz.underlying230 (fun _ => by exact Eng.wrap_u64 (by omega))) rfl (RL.m rfl rfl (RL.m rfl rfl (RL.u (.lss (.t rfl) .c) rfl ?_)))))))
 refine RL.callE hS .none Tryz.call310 (.cons .c (.cons (.t rfl) (.cons (.t rfl) (.cons (.t rfl) (.cons .c .nil))))) (fun _ => (fbits_c r (decide ((r + 256) < 0)) _ (hg.low hS.low) h (by simp; omega))) rfl (fun w1 hS2 => ?_)
 refine RL.m rfl rfl (RL.u (.ex (.t rfl) rfl) rfl (RL.u (.ex (.t rfl) rfl) rfl (RL.a rfl rfl (RL.a rfl rfl ?_))))
 refine RL.nil (CW.at [Y 9 (str ([49, (hexD (r / 16)).toNat.toUInt8, (hexD (r % 16)).toNat.toUInt8]))] rfl (CW.sr (RL.m rfl rfl (RL.a rfl rfl (RL.nil (CW.id ?_))))))
 refine CW.ret (hE.r1 rfl rfl ?_)
 exact ⟨rfl, hS2.low⟩

/- strconv.FormatInt -/
theorem fmt16_c (r : Int) (w : World) (hg : Gl w) (h : 0 ≤ r ∧ r < 32) :
  Calls Tryz.prog 283 [(i64 (r + 256)), (i64 16)].toArray w fun e w' => e = .returned (str ([49, (hexD (r / 16)).toNat.toUInt8, (hexD (r % 16)).toNat.toUInt8])) ∧ Ext w w' := by
 refine CW.enter1 Tryz.func283 rfl Tryz.ntmps283 (Nat.le_of_ble_eq_true rfl) fun Q hE => ?_
 have hS : St w nM w nM [] := St.start ⟨fun _ _ _ h => by cases h⟩
 refine CW.weaken [0, 1] (L' := [Y 0 (i64 (r + 256)), Y 1 (i64 16)]) ?_ rfl
 refine CW.sr (RL.u (.assign .c) rfl (RL.nil (CW.id (CW.sr ?_))))
 refine RL.m rfl rfl (RL.m rfl rfl ?_)
 refine RL.callE hS .none Tryz.call297 (.cons (.t rfl) (.cons (.t rfl) .nil)) (fun _ => (fmtI_c r _ (hg.low hS.low) h)) rfl (fun w1 hS2 => ?_)
 refine RL.a rfl rfl ?_
 refine RL.nil (CW.at [Y 4 (str ([49, (hexD (r / 16)).toNat.toUInt8, (hexD (r % 16)).toNat.toUInt8]))] rfl (CW.ret (hE.r1 rfl rfl ?_)))
 exact ⟨rfl, hS2.low⟩

/- loupe/quote.Quote -/
theorem quote_c (s : Str) (w : World) (hg : Gl w) (hb : len s ≤ 1099511627776) :
  Calls Tryz.prog 255 [(str s)].toArray w fun e w' => e = .returned (str (quoteP s)) ∧ Ext w w' := by
 refine CW.enter1 Tryz.func255 rfl Tryz.ntmps255 (Nat.le_of_ble_eq_true rfl) fun Q hE => ?_
 have := len_nonneg s
 have hS : St w nM w nM [] := St.start ⟨fun _ _ _ h => by cases h⟩
 refine CW.weaken [0] (L' := [Y 0 (str s)]) ?_ rfl
 refine CW.sr (RL.u (.assign .c) rfl (RL.nil (CW.id (CW.sr ?_))))
 refine RL.alloc hS Tryz.zeroValue163 rfl (fun w1 b2 hS3 => ?_)
 have hS4 := hS3.ownNil 5 1
 refine RL.nil (CW.id (CW.sr ?_))
 refine RL.callP Tryz.call281 .nil (letters_c (Rs := [.own 5 1 (.slice none 0 0) (([] : List Int)).length ((([] : List Int)).flatMap u8I), .box b2 [(.pointer none), (.slice none 0 0)] 163]) hS4) rfl ?_
 rintro v8 w9 ⟨mb5, ml6, mc7, rfl, hlet_mb5, hS11⟩
 refine RL.a rfl rfl ?_
 refine RL.nil (CW.at [Y 0 (str s), Y 3 (.pointer (some ⟨b2, 0, none⟩)), Y 4 (.map (some mb5))] rfl (CW.sr ?_))
 replace hS11 := (hS11.front 1 rfl rfl).front 2 rfl rfl
 refine RL.callP Tryz.call282 (.cons (.t rfl) (.cons .c .nil)) (writeByte_c (Rs := [.raw mb5 (mobj .i32 ml6 mc7)]) b2 ((.pointer none)) (([] : List Int)) 34 (.slice none 0 0) hS11 (by first | assumption | exact Or.inr rfl | exact Or.inl rfl) (by first | assumption | omega | (simp only [len_app, len_cons, len_nil, ints_len] at *; omega)) (by first | omega | (simp only [from_one, len_app, len_cons, len_nil, ints_len]; omega))) rfl ?_
 rintro v14 w15 ⟨vb13, M16, rfl, hS17, hle18⟩
 refine RL.nil (CW.at [Y 0 (str s), Y 3 (.pointer (some ⟨b2, 0, none⟩)), Y 4 (.map (some mb5))] rfl (CW.seq (CW.sr (RL.m rfl rfl ?_))))
 refine RL.rangeS (s := s) hS17 (.t rfl) Tryz.underlying9 rfl (fun w19 b20 hS21 => ?_)
 refine RL.nil (CW.id (CW.block ?_))
 refine CW.loop (σ := Int × Value × List Int × Mem) (fun (p, vl, ll, Ml) => [Y 3 (.pointer (some ⟨b2, 0, none⟩)), Y 4 (.map (some mb5)), Y 12 (.pointer (some ⟨b20, 0, none⟩))]) (fun (p, vl, ll, Ml) wl => St w nM wl Ml [.raw b20 (.stringIter ⟨⟨s⟩⟩ ((p : Int)).toNat), .box b2 [(selfP b2), vl] 163, .own 5 1 vl ll.length (ll.flatMap u8I), .raw mb5 (mobj .i32 ml6 mc7)] ∧ 0 ≤ p ∧ p ≤ len s ∧ ll ++ ints (qFrom s p) = ints (34 :: qFrom s 0) ∧ len ll ≤ 6 * p + 1) (fun (p, vl, ll, Ml) => (len s - p).toNat) ((0, vb13, (([] : List Int)) ++ [34], M16)) [3, 4, 12] rfl ?_ ?_
 ·refine ⟨hS21, ?_⟩; exact ⟨by omega, by omega, rfl, by decide⟩
 ·rintro ⟨p, vl, ll, Ml⟩ wl ⟨hS22, h0, h1, hF, hlen⟩
  have hrl := rlen_pos s p h0
  have hrb := runeAt_bd s p
  have hlv := letV_bd (runeAt s p)
  have hln := len_nonneg ll
  have hzz := Lib.encodeRuneZ_length (runeAt s p)
  have hz : len (encZ (runeAt s p)) ≤ 4 := by unfold len encZ; omega
  refine CW.sr ?_
  refine RL.nextS (s := s) (p := p) hS22 (i := 0) rfl (.t rfl) (by omega) rfl (fun hlt w23 hS24 => ?_) (fun hge => ?_)
  ·replace hS24 : St w nM w23 Ml [.raw b20 (.stringIter ⟨⟨s⟩⟩ ((p + runeLen s p : Int)).toNat), .box b2 [(selfP b2), vl] 163, .own 5 1 vl ll.length (ll.flatMap u8I), .raw mb5 (mobj .i32 ml6 mc7)] := hS24
   refine RL.u (.ex (.t rfl) rfl) rfl (RL.nil (CW.id ?_))
   refine CW.seq (CW.cond rfl (fun _ => ?_) (fun h => by cases h))
   refine CW.skip (CW.id (CW.block (CW.sr (RL.u (.ex (.t rfl) rfl) rfl (RL.a rfl rfl (RL.nil (CW.id ?_)))))))
   refine CW.sr (RL.m rfl rfl (RL.m rfl rfl (RL.u (.lookupOk (k := .i32) (v := (.int .u8 (letV (runeAt s p)))) (q := letIs (runeAt s p)) hS24 extEq (i := 3) rfl (.t rfl) (.t rfl) Tryz.underlying310 Tryz.underlying21 Tryz.zeroValue5 (hlet_mb5 _).1 (hlet_mb5 _).2) rfl (RL.m rfl rfl (RL.u (.ex (.t rfl) rfl) rfl (RL.u (.ex (.t rfl) rfl) rfl (RL.a rfl rfl (RL.a rfl rfl (RL.nil (CW.id ?_))))))))))
   refine CW.block (CW.sr (RL.m rfl rfl (RL.a rfl rfl (RL.nil (CW.id ?_)))))
   refine CW.cond rfl ?_ ?_ <;> intro hb2 <;> try simp only [zb] at hb2
   ·refine CW.sr ?_
    replace hS24 := (hS24.front 2 rfl rfl).front 2 rfl rfl
    refine RL.callP Tryz.call282 (.cons (.t rfl) (.cons .c .nil)) (writeByte_c (Rs := [.raw b20 (.stringIter ⟨⟨s⟩⟩ ((p + runeLen s p : Int)).toNat), .raw mb5 (mobj .i32 ml6 mc7)]) b2 ((selfP b2)) ll 92 vl hS24 (by first | assumption | exact Or.inr rfl | exact Or.inl rfl) (by omega) (by omega)) rfl ?_
    rintro v26 w27 ⟨vb25, M28, rfl, hS29, hle30⟩
    refine RL.nil (CW.at [Y 3 (.pointer (some ⟨b2, 0, none⟩)), Y 4 (.map (some mb5)), Y 7 (.int .u8 (letV (runeAt s p))), Y 12 (.pointer (some ⟨b20, 0, none⟩))] rfl ?_)
    refine CW.region (RL.m rfl rfl ?_)
    replace hS29 := (hS29.front 1 rfl rfl).front 1 rfl rfl
    refine RL.callP Tryz.call282 (.cons (.t rfl) (.cons (.t rfl) .nil)) (writeByte_c (Rs := [.raw b20 (.stringIter ⟨⟨s⟩⟩ ((p + runeLen s p : Int)).toNat), .raw mb5 (mobj .i32 ml6 mc7)]) b2 ((selfP b2)) (ll ++ [92]) (letV (runeAt s p)) vb25 hS29 (by first | assumption | exact Or.inr rfl | exact Or.inl rfl) (by first | assumption | omega | (simp only [len_app, len_cons, len_nil, ints_len] at *; omega)) (by first | omega | (simp only [from_one, len_app, len_cons, len_nil, ints_len]; omega))) rfl ?_
    rintro v32 w33 ⟨vb31, M34, rfl, hS35, hle36⟩
    replace hS35 := (hS35.front 3 rfl rfl).front 2 rfl rfl
    replace hS35 := (hS35.front 2 rfl rfl).front 3 rfl rfl
    refine RL.nil fun a hs => Exists.intro ((p + runeLen s p, vb31, (ll ++ [92]) ++ [letV (runeAt s p)], M34)) ⟨hs.keep [3, 4, 12], ?_, ?_⟩
    ·refine ⟨hS35, ?_⟩
     exact ⟨by omega, by omega, by rw [← hF, qFrom_step h0 hlt, ints_app, q_let hb2]; simp [List.append_assoc], by simp only [from_one, len_app, len_cons, len_nil, ints_len]; omega⟩
    ·show Int.toNat _ < Int.toNat _; omega
   ·refine CW.sr (RL.m rfl rfl (RL.u (.lss (.t rfl) .c) rfl (RL.a rfl rfl (RL.nil (CW.at [Y 3 (.pointer (some ⟨b2, 0, none⟩)), Y 4 (.map (some mb5)), Y 6 (.int .i32 (runeAt s p)), Y 12 (.pointer (some ⟨b20, 0, none⟩)), Y 29 (.bool (decide ((runeAt s p) < 32)))] rfl ?_)))))
    refine CW.cond rfl ?_ ?_ <;> intro hb3 <;> try simp only [zb] at hb3
    ·refine CW.sr ?_
     replace hS24 := (hS24.front 2 rfl rfl).front 2 rfl rfl
     refine RL.callP Tryz.call218 (.cons (.t rfl) (.cons .c .nil)) (writeString_c (Rs := [.raw b20 (.stringIter ⟨⟨s⟩⟩ ((p + runeLen s p : Int)).toNat), .raw mb5 (mobj .i32 ml6 mc7)]) b2 ((selfP b2)) ll [92, 117, 48, 48] vl hS24 (by first | assumption | exact Or.inr rfl | exact Or.inl rfl) (by first | assumption | omega | (simp only [len_app, len_cons, len_nil, ints_len] at *; omega)) (by first | omega | (simp only [from_one, len_app, len_cons, len_nil, ints_len]; omega))) rfl ?_
     rintro v38 w39 ⟨vb37, M40, rfl, hS41, hle42⟩
     refine RL.nil (CW.at [Y 3 (.pointer (some ⟨b2, 0, none⟩)), Y 4 (.map (some mb5)), Y 6 (.int .i32 (runeAt s p)), Y 12 (.pointer (some ⟨b20, 0, none⟩))] rfl ?_)
     refine CW.region (RL.m rfl rfl (RL.u (.cvtK (r := runeAt s p) (.t rfl) Tryz.underlying21 Tryz.underlying2 (fun _ => by exact Eng.wrap_i64 (by omega))) rfl (RL.u (.add (.t rfl) .c (fun _ => by omega)) rfl ?_)))
     refine RL.callE hS41 .none Tryz.call283 (.cons (.t rfl) (.cons .c .nil)) (fun _ => (fmt16_c (runeAt s p) _ (hg.low hS41.low) ⟨(runeAt_bd _ _).1, hb3⟩)) rfl (fun w43 hS44 => ?_)
     refine RL.u (.slSl (.t rfl) .c Tryz.underlying9 (fun _ => by first | omega | (simp only [from_one, len_app, len_cons, len_nil, ints_len]; omega))) rfl ?_
     replace hS44 := (hS44.front 1 rfl rfl).front 1 rfl rfl
     refine RL.callP Tryz.call218 (.cons (.t rfl) (.cons (.t rfl) .nil)) (writeString_c (Rs := [.raw b20 (.stringIter ⟨⟨s⟩⟩ ((p + runeLen s p : Int)).toNat), .raw mb5 (mobj .i32 ml6 mc7)]) b2 ((selfP b2)) (ll ++ ints [92, 117, 48, 48]) (Eng.from' ([49, (hexD ((runeAt s p) / 16)).toNat.toUInt8, (hexD ((runeAt s p) % 16)).toNat.toUInt8]) 1) vb37 hS44 (by first | assumption | exact Or.inr rfl | exact Or.inl rfl) (by first | assumption | omega | (simp only [len_app, len_cons, len_nil, ints_len] at *; omega)) (by first | omega | (simp only [from_one, len_app, len_cons, len_nil, ints_len]; omega))) rfl ?_
     rintro v46 w47 ⟨vb45, M48, rfl, hS49, hle50⟩
     replace hS49 := (hS49.front 3 rfl rfl).front 2 rfl rfl
     replace hS49 := (hS49.front 2 rfl rfl).front 3 rfl rfl
     refine RL.nil fun a hs => Exists.intro ((p + runeLen s p, vb45, (ll ++ ints [92, 117, 48, 48]) ++ ints (Eng.from' ([49, (hexD ((runeAt s p) / 16)).toNat.toUInt8, (hexD ((runeAt s p) % 16)).toNat.toUInt8]) 1), M48)) ⟨hs.keep [3, 4, 12], ?_, ?_⟩
     ·refine ⟨hS49, ?_⟩
      exact ⟨by omega, by omega, by rw [← hF, qFrom_step h0 hlt, ints_app, q_low hb2 hb3 hrb.1]; simp [List.append_assoc], by simp only [from_one, len_app, len_cons, len_nil, ints_len]; omega⟩
     ·show Int.toNat _ < Int.toNat _; omega
    ·refine CW.region (RL.m rfl rfl ?_)
     replace hS24 := (hS24.front 2 rfl rfl).front 2 rfl rfl
     refine RL.callP Tryz.call112 (.cons (.t rfl) (.cons (.t rfl) .nil)) (writeRune_c (Rs := [.raw b20 (.stringIter ⟨⟨s⟩⟩ ((p + runeLen s p : Int)).toNat), .raw mb5 (mobj .i32 ml6 mc7)]) b2 ((selfP b2)) ll (runeAt s p) vl hS24 (by first | assumption | exact Or.inr rfl | exact Or.inl rfl) (by omega) (by omega)) rfl ?_
     rintro v52 w53 ⟨vb51, M54, rfl, hS55, hle56⟩
     replace hS55 := (hS55.front 3 rfl rfl).front 2 rfl rfl
     replace hS55 := (hS55.front 2 rfl rfl).front 3 rfl rfl
     refine RL.nil fun a hs => Exists.intro ((p + runeLen s p, vb51, ll ++ encZ (runeAt s p), M54)) ⟨hs.keep [3, 4, 12], ?_, ?_⟩
     ·refine ⟨hS55, ?_⟩
      exact ⟨by omega, by omega, by rw [← hF, qFrom_step h0 hlt, ints_app, q_rune hb2 hb3]; simp [List.append_assoc], by simp only [from_one, len_app, len_cons, len_nil, ints_len]; omega⟩
     ·show Int.toNat _ < Int.toNat _; omega
  ·refine RL.u (.ex (.t rfl) rfl) rfl ?_
   refine RL.nil (CW.at [Y 3 (.pointer (some ⟨b2, 0, none⟩)), Y 4 (.map (some mb5)), Y 12 (.pointer (some ⟨b20, 0, none⟩)), Y 13 (.tuple #[(.bool false)]), Y 14 (.bool false)] rfl (CW.seq (CW.cond rfl (fun h => by cases h) (fun _ => (CW.exit (CW.at [Y 3 (.pointer (some ⟨b2, 0, none⟩))] rfl ?_))))))
   refine CW.sr ?_
   replace hS22 := (hS22.front 2 rfl rfl).front 2 rfl rfl
   refine RL.callP Tryz.call282 (.cons (.t rfl) (.cons .c .nil)) (writeByte_c (Rs := [.raw b20 (.stringIter ⟨⟨s⟩⟩ ((p : Int)).toNat), .raw mb5 (mobj .i32 ml6 mc7)]) b2 ((selfP b2)) ll 34 vl hS22 (by first | assumption | exact Or.inr rfl | exact Or.inl rfl) (by omega) (by omega)) rfl ?_
   rintro v58 w59 ⟨vb57, M60, rfl, hS61, hle62⟩
   refine RL.nil (CW.at [Y 3 (.pointer (some ⟨b2, 0, none⟩))] rfl (CW.sr ?_))
   replace hS61 := (hS61.front 1 rfl rfl).front 1 rfl rfl
   refine RL.callP Tryz.call110 (.cons (.t rfl) .nil) (string_c (Rs := [.raw b20 (.stringIter ⟨⟨s⟩⟩ ((p : Int)).toNat), .raw mb5 (mobj .i32 ml6 mc7)]) b2 ((selfP b2)) vb57 (quoteP s) (ll ++ [34]) hS61 (by first | assumption | exact Or.inr rfl | exact Or.inl rfl) (by unfold quoteP; rw [ints_app, ← hF, qFrom_end hge]; simp [ints])) rfl ?_
   rintro _ w63 ⟨rfl, hE64⟩
   have hS65 : St w nM w63 nM [] := (St.start ⟨fun _ _ _ h => by cases h⟩).ext hE64
   refine RL.a rfl rfl ?_
   refine RL.nil (CW.at [Y 2 (str (quoteP s))] rfl (CW.ret (hE.r1 rfl rfl ?_)))
   exact ⟨rfl, hS65.low⟩

end Go.Proofs.YtmjpjbmeamnfpaaGreatDoor
namespace Go.Eng
open Go.RowKit

/-- '+', '-', '_': at which place. -/
def ix3 (r : Int) : Int := if r = 43 then 0 else if r = 45 then 1 else if r = 95 then 2 else -1
theorem ix3_neg (r : Int) : ix3 r < 0 ↔ ¬ (r = 43 ∨ r = 45 ∨ r = 95) := by unfold ix3; (repeat' split) <;> omega
theorem ixb_fin : ∀ n : Fin 256, Lib.indexByte [43, 45, 95] (UInt8.ofNat n.val) = ix3 (n.val : Int) := by decide +kernel
theorem ixb {r : Int} (h0 : 0 ≤ r) (h1 : r < 256) : Lib.indexByte [43, 45, 95] r.toNat.toUInt8 = ix3 r := by
  have := ixb_fin ⟨r.toNat, by omega⟩
  have e : ((r.toNat : Nat) : Int) = r := by omega
  simp only [e] at this
  exact this
theorem ix_high {l : Str} {c : Int} (hl : ∀ b ∈ l, b.toNat < 128) (h0 : 128 ≤ c) (h1 : c ≤ 255) : Lib.indexByte l c.toNat.toUInt8 < 0 := by
  rcases Int.lt_or_le (Lib.indexByte l c.toNat.toUInt8) 0 with h | h
  · exact h
  · exfalso
    induction l with
    | nil => exact ix_nil _ h
    | cons a l ih =>
      rcases (ix_cons a _ l).1 h with h2 | h2
      · have := hl a (by simp)
        subst h2
        have e : (c.toNat.toUInt8).toNat = c.toNat := by simp; omega
        omega
      · exact ih (fun b hb => hl b (by simp [hb])) h2
theorem signs_low (k : Int) : ∀ b ∈ from' ([43, 45, 95] : Str) k, b.toNat < 128 := by
  intro b hb
  have := List.mem_of_mem_drop hb
  simp at this
  rcases this with rfl | rfl | rfl <;> decide
theorem sign_byte (k : Int) : byteAt ([43, 45, 95] : Str) k < 128 := by
  unfold byteAt
  rcases Nat.lt_or_ge k.toNat 3 with h | h
  · have : k.toNat = 0 ∨ k.toNat = 1 ∨ k.toNat = 2 := by omega
    rcases this with h2 | h2 | h2 <;> rw [h2] <;> decide
  · have : ([43, 45, 95] : Str).getD k.toNat 0 = 0 := by simp [List.getD_eq_getElem?_getD, List.getElem?_eq_none (show ([43, 45, 95] : Str).length ≤ k.toNat from h)]
    rw [this]; decide
def NoSign (l : Str) (p : Int) : Prop := ∀ j : Int, 0 ≤ j → j < p → ix3 (byteAt l j) < 0
theorem NoSign.step {l : Str} {p : Int} (h : NoSign l p) (h0 : 0 ≤ p) (h1 : p < len l) (h2 : ix3 (runeAt l p) < 0) : NoSign l (p + runeLen l p) := by
  intro j hj0 hj1
  rcases Int.lt_or_le j p with hj | hj
  · exact h j hj0 hj
  · rcases rune_dec h0 h1 with ⟨_, _, h3, h4⟩ | ⟨h3, h4, _, h5, h6, h7⟩
    · have : j = p := by omega
      subst this; rw [ix3_neg]; omega
    · rcases Int.lt_or_le (byteAt l p) 128 with hb | hb
      · obtain ⟨h8, h9⟩ := h6 hb
        have : j = p := by omega
        subst this; rw [← h9]; exact h2
      · have hle := rune_le l p h1
        have hm := enc_high (h7 hb)
        rw [h5] at hm
        have hjl : j.toNat < l.length := by unfold len at hle; omega
        have hmem : l[j.toNat] ∈ Eng.sub l p (p + rune l p) := by
          unfold Eng.sub
          rw [List.mem_take_iff_getElem]
          refine ⟨j.toNat - p.toNat, by rw [List.length_drop]; omega, ?_⟩
          rw [List.getElem_drop]; congr 1; omega
        have h10 := hm _ hmem
        have h11 : byteAt l j = (l[j.toNat].toNat : Int) := by simp [byteAt, hjl]
        rw [ix3_neg]; omega
theorem NoSign.none' {l : Str} {p : Int} (h : NoSign l p) (hp : len l ≤ p) : l.any (fun b => ([43, 45, 95] : Str).contains b) = false := by
  rw [List.any_eq_false]
  intro b hb hc
  obtain ⟨j, hj, rfl⟩ := List.getElem_of_mem hb
  have := h (j : Int) (by omega) (by unfold len at hp; omega)
  rw [ix3_neg] at this
  have e : byteAt l (j : Int) = (l[j].toNat : Int) := by simp [byteAt, hj]
  apply this
  simp only [List.contains_cons, List.contains_nil, Bool.or_false, Bool.or_eq_true, beq_iff_eq] at hc
  rw [e]
  rcases hc with h | h | h <;> rw [h] <;> decide
theorem sign_found {l : Str} {p : Int} (h0 : 0 ≤ p) (h1 : p < len l) (h2 : ¬ ix3 (runeAt l p) < 0) : l.any (fun b => ([43, 45, 95] : Str).contains b) = true := by
  rw [ix3_neg] at h2
  have h3 : runeAt l p = 43 ∨ runeAt l p = 45 ∨ runeAt l p = 95 := by omega
  have h4 : byteAt l p = 43 ∨ byteAt l p = 45 ∨ byteAt l p = 95 := by
    rcases h3 with h | h | h
    · exact .inl ((runeAt_low h0 h1 (by decide)).1 h)
    · exact .inr (.inl ((runeAt_low h0 h1 (by decide)).1 h))
    · exact .inr (.inr ((runeAt_low h0 h1 (by decide)).1 h))
  have hp : p.toNat < l.length := by unfold len at h1; omega
  have e : byteAt l p = (l[p.toNat].toNat : Int) := by simp [byteAt, hp]
  rw [List.any_eq_true]
  refine ⟨l[p.toNat], List.getElem_mem hp, ?_⟩
  simp only [List.contains_cons, List.contains_nil, Bool.or_false, Bool.or_eq_true, beq_iff_eq]
  rw [e] at h4
  have hq : ∀ (b : UInt8) (n : Nat), (b.toNat : Int) = n → n < 256 → b = UInt8.ofNat n := fun b n h hn => by rw [← UInt8.toNat_inj]; simp [Nat.mod_eq_of_lt hn]; omega
  rcases h4 with h | h | h
  · exact .inl (hq _ 43 h (by omega))
  · exact .inr (.inl (hq _ 45 h (by omega)))
  · exact .inr (.inr (hq _ 95 h (by omega)))
/-- What Go decodes is a rune that is valid. -/
theorem runeAt_valid (s : Str) (p : Int) : runeAt s p < 55296 ∨ 57343 < runeAt s p := by
  have h : (Utf8.decode ⟨⟨s⟩⟩ p.toNat).1 < 55296 ∨ (57343 < (Utf8.decode ⟨⟨s⟩⟩ p.toNat).1 ∧ (Utf8.decode ⟨⟨s⟩⟩ p.toNat).1 ≤ 1114111) := by
    rw [Lib.decode_at]; exact Lib.decodeN_valid _ _ _ _ _ (UInt8.toNat_lt _)
  unfold runeAt; omega
end Go.Eng
set_option maxRecDepth 100000
namespace Go.Proofs.YtmjpjbmeamnfpaaGreatDoor
open Go.Eng

theorem ascii_rune {s : Str} {p : Int} (h0 : 0 ≤ p) (h1 : p < len s) (h : byteAt s p < 128) : runeAt s p = byteAt s p := (rune_low h0 h1 h).1
theorem validRune_c (r : Int) (w : World) : Calls Tryz.prog 192 [.int .i32 r].toArray w fun e w' => e = .returned (.bool (Lib.validRune r)) ∧ w' = w := Tryz.utf8_ValidRune r w
/- strings.IndexRune -/
theorem indexRune_c (r : Int) (w : World) (hr : 0 ≤ r ∧ r ≤ 1114111 ∧ (r < 55296 ∨ 57343 < r)) :
  Calls Tryz.prog 146 [(str [43, 45, 95]), (.int .i32 r)].toArray w fun e w' => e = .returned (i64 (ix3 r)) ∧ Ext w w' := by
 refine CW.enter1 Tryz.func146 rfl Tryz.ntmps146 (Nat.le_of_ble_eq_true rfl) fun Q hE => ?_
 have h3 : len ([43, 45, 95] : Str) = 3 := rfl
 have hx : 128 ≤ r → ix3 r = -1 := fun h => by unfold ix3; rw [if_neg (by omega), if_neg (by omega), if_neg (by omega)]
 have hvd : Utf8.valid r = true := by unfold Utf8.valid; simp; omega
 have hsf := fun h => runeS_facts hvd (r := r) h
 have hlb := byteAt_bd (runeS r) (len (runeS r) - 1)
 have hS : St w nM w nM [] := St.start ⟨fun _ _ _ h => by cases h⟩
 refine CW.weaken [0, 1] (L' := [Y 0 (str [43, 45, 95]), Y 1 (.int .i32 r)]) ?_ rfl
 refine CW.sr (RL.u (.assign .c) rfl (RL.nil (CW.id (CW.block ?_))))
 refine CW.sr (RL.m rfl rfl (RL.u (.leq .c (.t rfl)) rfl (RL.m rfl rfl (RL.v (.pos rfl rfl) (.move (.t rfl)) rfl (RL.v (.pos rfl rfl) (.lss (.g rfl (fun h => h)) .c) rfl (RL.u (.and (.t rfl) (.g rfl (fun h => h))) rfl (RL.a rfl rfl (RL.nil (CW.id ?_)))))))))
 refine CW.cond rfl ?_ ?_ <;> intro hb1 <;> try simp only [zb] at hb1
 ·refine CW.sr (RL.m rfl rfl (RL.m rfl rfl (RL.u (.cvtK (r := r) (.t rfl) Tryz.underlying21 Tryz.underlying5 (fun _ => by exact Eng.wrap_u8 (by omega))) rfl ?_)))
  refine RL.callS .none Tryz.call119 (.cons (.t rfl) (.cons (.t rfl) .nil)) (fun _ => (indexByte_c [43, 45, 95] r _)) rfl ?_
  refine RL.a rfl rfl ?_
  refine RL.nil (CW.at [Y 4 (i64 (Lib.indexByte [43, 45, 95] r.toNat.toUInt8))] rfl (CW.ret (hE.r1 rfl rfl ?_)))
  exact ⟨by rw [ixb (by omega) (by omega)], hS.low⟩
 ·refine CW.sr (RL.m rfl rfl (RL.u (.eql (.t rfl) .c) rfl (RL.a rfl rfl (RL.nil (CW.id ?_)))))
  refine CW.cond rfl ?_ ?_ <;> intro hb2 <;> try simp only [zb] at hb2
  ·refine CW.seq (CW.sr (RL.m rfl rfl ?_))
   refine RL.rangeS (s := [43, 45, 95]) hS (.t rfl) Tryz.underlying9 rfl (fun w1 b2 hS3 => ?_)
   refine RL.nil (CW.id (CW.block ?_))
   refine CW.loop (σ := Int) (fun p => [Y 175 (.pointer (some ⟨b2, 0, none⟩))]) (fun p wl => St w nM wl nM [.raw b2 (.stringIter ⟨⟨[43, 45, 95]⟩⟩ ((p : Int)).toNat)] ∧ 0 ≤ p ∧ p ≤ 3) (fun p => (3 - p).toNat) 0 [175] rfl ?_ ?_
   ·refine ⟨hS3, ?_⟩; exact ⟨by omega, by omega⟩
   ·rintro p wl ⟨hS4, h0, h1⟩
    have hrl := rlen_pos ([43, 45, 95] : Str) p h0
    refine CW.sr ?_
    refine RL.nextS (s := [43, 45, 95]) (p := p) hS4 (i := 0) rfl (.t rfl) (by omega) rfl (fun hlt w5 hS6 => ?_) (fun hge => ?_)
    ·replace hS6 : St w nM w5 nM [.raw b2 (.stringIter ⟨⟨[43, 45, 95]⟩⟩ ((p + runeLen [43, 45, 95] p : Int)).toNat)] := hS6
     refine RL.u (.ex (.t rfl) rfl) rfl (RL.nil (CW.id ?_))
     refine CW.seq (CW.cond rfl (fun _ => ?_) (fun h => by cases h))
     refine CW.skip (CW.id (CW.block (CW.sr (RL.u (.ex (.t rfl) rfl) rfl (RL.u (.ex (.t rfl) rfl) rfl (RL.a rfl rfl (RL.a rfl rfl (RL.nil (CW.id ?_)))))))))
     refine CW.sr (RL.m rfl rfl (RL.u (.eql (.t rfl) .c) rfl (RL.nil (CW.id ?_))))
     refine CW.cond rfl ?_ ?_ <;> intro hb4 <;> try simp only [zb] at hb4
     ·refine CW.sr (RL.m rfl rfl (RL.a rfl rfl (RL.nil (CW.id (CW.ret (hE.r1 rfl rfl ?_))))))
      exfalso; have hlow := sign_byte p; have hra := ascii_rune (s := [43, 45, 95]) h0 hlt hlow; omega
     ·refine CW.skip fun a hs => Exists.intro (p + runeLen [43, 45, 95] p) ⟨hs.keep [175], ?_, ?_⟩
      ·refine ⟨hS6, ?_⟩
       exact ⟨by omega, by omega⟩
      ·show Int.toNat _ < Int.toNat _; omega
    ·refine RL.u (.ex (.t rfl) rfl) rfl (RL.nil (CW.id ?_))
     refine CW.seq (CW.cond rfl (fun h => by cases h) (fun _ => (CW.exit (CW.at [] rfl (CW.sr ?_)))))
     refine RL.u (.assign .c) rfl (RL.nil (CW.id ?_))
     refine CW.ret (hE.r1 rfl rfl ?_)
     exact ⟨by rw [hx (by omega)], hS4.low⟩
  ·refine CW.sr (RL.m rfl rfl ?_)
   refine RL.callS .none Tryz.call192 (.cons (.t rfl) .nil) (fun _ => (validRune_c r _)) rfl ?_
   refine RL.u (.not (.t rfl)) rfl (RL.a rfl rfl ?_)
   refine RL.nil (CW.at [Y 0 (str [43, 45, 95]), Y 1 (.int .i32 r), Y 4 (i64 0), Y 183 (.bool (!(Lib.validRune r)))] rfl ?_)
   refine CW.cond rfl ?_ ?_ <;> intro hb6 <;> try simp only [zb] at hb6
   ·refine CW.sr (RL.u (.assign .c) rfl (RL.nil (CW.id (CW.ret (hE.r1 rfl rfl ?_)))))
    exfalso; unfold Lib.validRune at hb6; simp at hb6; omega
   ·refine CW.scope (CW.sr (RL.m rfl rfl (RL.u (.rune2s (.t rfl) Tryz.underlying21 Tryz.underlying9) rfl (RL.a rfl rfl (RL.nil (CW.id ?_))))))
    refine CW.sr (RL.m rfl rfl (RL.u (.lenS (.t rfl) Tryz.underlying9) rfl (RL.u (.sub (.t rfl) .c (fun _ => by omega)) rfl (RL.a rfl rfl (RL.nil (CW.id (CW.sr ?_)))))))
    refine RL.m rfl rfl (RL.a rfl rfl (RL.nil (CW.id ?_)))
    refine CW.sr (RL.u (.assign .c) rfl (RL.nil (CW.id (CW.seq ?_))))
    refine CW.block ?_
    refine CW.unroll 1 ?_
    refine CW.seq (CW.sr (RL.m rfl rfl (RL.m rfl rfl (RL.u (.lenS (.t rfl) Tryz.underlying9) rfl (RL.u (.lss (.t rfl) (.t rfl)) rfl (RL.nil (CW.id ?_)))))))
    refine CW.cond rfl ?_ ?_ <;> intro hb7 <;> try simp only [zb] at hb7
    ·refine CW.skip (CW.id (CW.block (CW.scope (CW.seq ?_))))
     refine CW.seq ?_
     refine CW.regionD hS tryz_mixed (by decide +kernel) ?_
     refine RQ.v .none (.move (.t rfl)) rfl ?_
     refine RQ.v .none (.move (.t rfl)) rfl ?_
     refine RQ.v .none (.idxS (.t rfl) (.t rfl) Tryz.underlying9 (fun _ => by omega)) rfl ?_
     refine RQ.v .none (.move (.t rfl)) rfl ?_
     refine RQ.v .none (.move (.t rfl)) rfl ?_
     refine RQ.v .none (.idxS (.t rfl) (.t rfl) Tryz.underlying9 (fun _ => by omega)) rfl ?_
     refine RQ.v .none (.neq (.t rfl) (.t rfl)) rfl ?_
     refine RQ.nil (fun a hs w7 hS8 => CW.at [Y 0 (str [43, 45, 95]), Y 1 (.int .i32 r), Y 4 (i64 0), Y 7 (str (runeS r)), Y 8 (i64 ((len (runeS r)) - 1)), Y 9 (i64 ((len (runeS r)) - 1)), Y 10 (i64 0), Y 33 (.bool ((byteAt [43, 45, 95] ((len (runeS r)) - 1)) != (byteAt (runeS r) ((len (runeS r)) - 1))))] rfl ?_ a hs)
     refine CW.cond rfl ?_ ?_ <;> intro hb8 <;> try simp only [zb] at hb8
     ·refine CW.seq ?_
      refine CW.regionD hS8 tryz_mixed (by decide +kernel) ?_
      refine RQ.v .none (.move (.t rfl)) rfl ?_
      refine RQ.v .none (.move (.t rfl)) rfl ?_
      refine RQ.v .none (.add (.t rfl) .c (fun _ => by omega)) rfl ?_
      refine RQ.v .none (.slSl (.t rfl) (.t rfl) Tryz.underlying9 (fun _ => by omega)) rfl ?_
      refine RQ.v .none (.move (.t rfl)) rfl ?_
      refine RQ.v .none (.move (.t rfl)) rfl ?_
      refine RQ.v .none (.idxS (.t rfl) (.t rfl) Tryz.underlying9 (fun _ => by omega)) rfl ?_
      refine RQ.call .none Tryz.call119 (.cons (.t rfl) (.cons (.t rfl) .nil)) (fun _ => (fun w2 hw2 => ((indexByte_c (Eng.from' [43, 45, 95] (((len (runeS r)) - 1) + 1)) (byteAt (runeS r) ((len (runeS r)) - 1)) _)).mono (fun e w3 h3 => ⟨h3.1, h3.2 ▸ hw2⟩))) rfl ?_
      refine RQ.v .none (.assign (.t rfl)) rfl ?_
      refine RQ.nil (fun a hs w9 hS10 => CW.at [Y 0 (str [43, 45, 95]), Y 1 (.int .i32 r), Y 4 (i64 0), Y 7 (str (runeS r)), Y 8 (i64 ((len (runeS r)) - 1)), Y 9 (i64 ((len (runeS r)) - 1)), Y 10 (i64 0), Y 11 (i64 (Lib.indexByte (Eng.from' [43, 45, 95] (((len (runeS r)) - 1) + 1)) (byteAt (runeS r) ((len (runeS r)) - 1)).toNat.toUInt8))] rfl ?_ a hs)
      refine CW.seq (CW.sr (RL.m rfl rfl (RL.u (.lss (.t rfl) .c) rfl (RL.nil (CW.id ?_)))))
      refine CW.cond rfl ?_ ?_ <;> intro hb9 <;> try simp only [zb] at hb9
      ·refine CW.sr (RL.u (.assign .c) rfl (RL.nil (CW.id (CW.ret (hE.r1 rfl rfl ?_)))))
       exact ⟨by rw [hx (by omega)], hS10.low⟩
      ·exfalso; have hd2 := (hsf (by omega)).2.2; have hd1 := ix_high (signs_low (len (runeS r) - 1 + 1)) hd2 hlb.2; omega
     ·exfalso; have hd1 := sign_byte (len (runeS r) - 1); have hd2 := (hsf (by omega)).2.2; omega
    ·refine CW.exit (CW.at [] rfl ?_)
     refine CW.seq (CW.sr (RL.u (.assign .c) rfl (RL.nil (CW.id ?_))))
     refine CW.ret (hE.r1 rfl rfl ?_)
     exact ⟨by rw [hx (by omega)], hS.low⟩

/- strings.shouldUseASCIISet -/
theorem ascSet_c (n : Int) (w : World)  :
  Calls Tryz.prog 261 [(i64 n)].toArray w fun e w' => e = .returned (.bool (decide (8 < n))) ∧ w' = w := by
 refine CW.enter1 Tryz.func261 rfl Tryz.ntmps261 (Nat.le_of_ble_eq_true rfl) fun Q hE => ?_
 refine CW.weaken [0] (L' := [Y 0 (i64 n)]) ?_ rfl
 refine CW.sr (RL.u (.assign .c) rfl (RL.nil (CW.id (CW.sr ?_))))
 refine RL.m rfl rfl (RL.u (.gtr (.t rfl) .c) rfl (RL.a rfl rfl (RL.nil (CW.id ?_))))
 refine CW.ret (hE.r1 rfl rfl ?_)
 exact ⟨rfl, rfl⟩

/- strings.IndexAny -/
theorem indexAny_c (l : Str) (w : World) (hl : len l ≤ 8) :
  Calls Tryz.prog 235 [(str l), (str [43, 45, 95])].toArray w fun e w' => ∃ v, e = .returned v ∧ ∃ x, (0 ≤ x ↔ l.any (fun b => ([43, 45, 95] : Str).contains b) = true) ∧ v = i64 x ∧ Ext w w' := by
 refine CW.enter1 Tryz.func235 rfl Tryz.ntmps235 (Nat.le_of_ble_eq_true rfl) fun Q hE => ?_
 have h3 : len ([43, 45, 95] : Str) = 3 := rfl
 have := len_nonneg l
 have hS : St w nM w nM [] := St.start ⟨fun _ _ _ h => by cases h⟩
 refine CW.weaken [0, 1] (L' := [Y 0 (str l), Y 1 (str [43, 45, 95])]) ?_ rfl
 refine CW.sr (RL.u (.assign .c) rfl (RL.nil (CW.id (CW.seq ?_))))
 refine CW.sr (RL.m rfl rfl (RL.u (.seql (.t rfl) .c) rfl (RL.nil (CW.id ?_))))
 refine CW.cond rfl ?_ ?_ <;> intro hb1 <;> try simp only [zb] at hb1
 ·exfalso; simp at hb1
 ·refine CW.skip (CW.id (CW.seq (CW.sr (RL.m rfl rfl (RL.u (.lenS (.t rfl) Tryz.underlying9) rfl (RL.u (.eql (.t rfl) .c) rfl (RL.nil (CW.id ?_))))))))
  refine CW.cond rfl ?_ ?_ <;> intro hb2 <;> try simp only [zb] at hb2
  ·exfalso; omega
  ·refine CW.skip (CW.id (CW.seq (CW.sr (RL.m rfl rfl (RL.u (.lenS (.t rfl) Tryz.underlying9) rfl ?_)))))
   refine RL.callS .none Tryz.call261 (.cons (.t rfl) .nil) (fun _ => (ascSet_c (len l) _)) rfl ?_
   refine RL.nil (CW.at [Y 0 (str l), Y 1 (str [43, 45, 95]), Y 26 (.bool (decide (8 < (len l))))] rfl ?_)
   refine CW.cond rfl ?_ ?_ <;> intro hb3 <;> try simp only [zb] at hb3
   ·exfalso; omega
   ·refine CW.skip (CW.id (CW.seq (CW.sr (RL.m rfl rfl ?_))))
    refine RL.rangeS (s := l) hS (.t rfl) Tryz.underlying9 rfl (fun w1 b2 hS3 => ?_)
    refine RL.nil (CW.id (CW.block ?_))
    refine CW.loop (σ := Int) (fun p => [Y 1 (str [43, 45, 95]), Y 45 (.pointer (some ⟨b2, 0, none⟩))]) (fun p wl => St w nM wl nM [.raw b2 (.stringIter ⟨⟨l⟩⟩ ((p : Int)).toNat)] ∧ 0 ≤ p ∧ p ≤ len l ∧ NoSign l p) (fun p => (len l - p).toNat) 0 [1, 45] rfl ?_ ?_
    ·refine ⟨hS3, ?_⟩; exact ⟨by omega, by omega, fun j h0 h1 => by omega⟩
    ·rintro p wl ⟨hS4, h0, h1, hN⟩
     have hrl := rlen_pos l p h0
     have hrb := runeAt_bd l p
     have hrv := runeAt_valid l p
     refine CW.sr ?_
     refine RL.nextS (s := l) (p := p) hS4 (i := 0) rfl (.t rfl) (by omega) rfl (fun hlt w5 hS6 => ?_) (fun hge => ?_)
     ·replace hS6 : St w nM w5 nM [.raw b2 (.stringIter ⟨⟨l⟩⟩ ((p + runeLen l p : Int)).toNat)] := hS6
      refine RL.u (.ex (.t rfl) rfl) rfl (RL.nil (CW.id ?_))
      refine CW.seq (CW.cond rfl (fun _ => ?_) (fun h => by cases h))
      refine CW.skip (CW.id (CW.block (CW.sr (RL.u (.ex (.t rfl) rfl) rfl (RL.u (.ex (.t rfl) rfl) rfl (RL.a rfl rfl (RL.a rfl rfl (RL.nil (CW.id ?_)))))))))
      refine CW.sr (RL.m rfl rfl (RL.m rfl rfl ?_))
      refine RL.callE hS6 .none Tryz.call146 (.cons (.t rfl) (.cons (.t rfl) .nil)) (fun _ => (indexRune_c (runeAt l p) _ (by first | assumption | omega))) rfl (fun w7 hS8 => ?_)
      refine RL.u (.geq (.t rfl) .c) rfl ?_
      refine RL.nil (CW.at [Y 1 (str [43, 45, 95]), Y 9 (i64 p), Y 45 (.pointer (some ⟨b2, 0, none⟩)), Y 53 (.bool (decide (0 ≤ (ix3 (runeAt l p)))))] rfl ?_)
      refine CW.cond rfl ?_ ?_ <;> intro hb5 <;> try simp only [zb] at hb5
      ·refine CW.sr (RL.m rfl rfl (RL.a rfl rfl (RL.nil (CW.id (CW.ret (hE.r1 rfl rfl ?_))))))
       have hf := sign_found h0 hlt (by omega)
       exact ⟨_, rfl, _, ⟨fun _ => hf, fun _ => h0⟩, rfl, hS8.low⟩
      ·refine CW.skip fun a hs => Exists.intro (p + runeLen l p) ⟨hs.keep [1, 45], ?_, ?_⟩
       ·refine ⟨hS8, ?_⟩
        exact ⟨by omega, by omega, hN.step h0 hlt (by omega)⟩
       ·show Int.toNat _ < Int.toNat _; omega
     ·refine RL.u (.ex (.t rfl) rfl) rfl (RL.nil (CW.id ?_))
      refine CW.seq (CW.cond rfl (fun h => by cases h) (fun _ => (CW.exit (CW.at [] rfl (CW.sr ?_)))))
      refine RL.u (.assign .c) rfl (RL.nil (CW.id ?_))
      refine CW.ret (hE.r1 rfl rfl ?_)
      have hf := hN.none' (by omega)
      exact ⟨_, rfl, _, ⟨fun h => absurd h (by decide), fun h => by rw [hf] at h; cases h⟩, rfl, hS4.low⟩

/- strings.ContainsAny -/
theorem containsAny_c (l : Str) (w : World) (hl : len l = 4) :
  Calls Tryz.prog 195 [(str l), (str [43, 45, 95])].toArray w fun e w' => e = .returned (.bool (l.any (fun b => ([43, 45, 95] : Str).contains b))) ∧ Ext w w' := by
 refine CW.enter1 Tryz.func195 rfl Tryz.ntmps195 (Nat.le_of_ble_eq_true rfl) fun Q hE => ?_
 have hS : St w nM w nM [] := St.start ⟨fun _ _ _ h => by cases h⟩
 refine CW.weaken [0, 1] (L' := [Y 0 (str l), Y 1 (str [43, 45, 95])]) ?_ rfl
 refine CW.sr (RL.u (.assign .c) rfl (RL.nil (CW.id (CW.sr ?_))))
 refine RL.m rfl rfl (RL.m rfl rfl ?_)
 refine RL.callP Tryz.call235 (.cons (.t rfl) (.cons (.t rfl) .nil)) (indexAny_c l _ (by omega)) rfl ?_
 rintro v2 w3 ⟨ix1, hix1, rfl, hEix1⟩
 have hS4 := hS.ext hEix1
 refine RL.u (.geq (.t rfl) .c) rfl (RL.a rfl rfl ?_)
 refine RL.nil (CW.at [Y 4 (.bool (decide (0 ≤ ix1)))] rfl (CW.ret (hE.r1 rfl rfl ?_)))
 have hq : decide (0 ≤ ix1) = l.any (fun b => ([43, 45, 95] : Str).contains b) := by rw [Bool.eq_iff_iff, decide_eq_true_eq]; exact hix1
 rw [← hq]; exact ⟨rfl, hS4.low⟩

end Go.Proofs.YtmjpjbmeamnfpaaGreatDoor
