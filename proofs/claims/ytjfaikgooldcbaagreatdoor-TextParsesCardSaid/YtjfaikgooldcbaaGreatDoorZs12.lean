/-

-/
import Derived.Test.YtjfaikgooldcbaaGreatDoorZs4
import Derived.Laws.BitsLemmas
import Derived.Test.YtjfaikgooldcbaaGreatDoorZs3
import Derived.Test.YtjfaikgooldcbaaGreatDoorProg
import Derived.Test.YtjfaikgooldcbaaGreatDoorZs5
import Derived.Test.YtjfaikgooldcbaaGreatDoorZs10
import Derived.Test.YtjfaikgooldcbaaGreatDoorZs11
set_option linter.unusedVariables false
set_option linter.unusedSimpArgs false
set_option maxRecDepth 100000
namespace Go.Proofs.YtjfaikgooldcbaaGreatDoor
open Go.Eng

/- loupe/louperef04.Blank -/
theorem blank_c (s : Str) (i : Int) (w : World) (h0 : 0 ≤ i) (h1 : i ≤ len s) (hb : len s ≤ 9223372036854775807) :
  Calls Tryz.prog 30 [(str s), (i64 i)].toArray w fun e w' => e = .returned (i64 (blankTo s i)) ∧ w' = w := by
 refine CW.enter1 Tryz.func30 rfl Tryz.ntmps30 (Nat.le_of_ble_eq_true rfl) fun Q hE => ?_
 refine CW.weaken [0, 1] (L' := [Y 0 (str s), Y 1 (i64 i)]) ?_ rfl
 refine CW.sr (RL.u (.assign .c) rfl (RL.nil (CW.id (CW.seq ?_))))
 refine CW.block ?_
 refine CW.loop (σ := Int) (fun k => [Y 0 (str s), Y 1 (i64 k)]) (fun k wl => w = wl ∧ i ≤ k ∧ k ≤ len s ∧ blankTo s k = blankTo s i) (fun k => (len s - k).toNat) i [0, 1] rfl ?_ ?_
 ·exact ⟨rfl, by omega, by omega, rfl⟩
 ·rintro k wl ⟨rfl, hk0, hk1, hkF⟩
  have hby := byteAt_bd s k
  refine CW.seq (CW.sr (RL.m rfl rfl (RL.m rfl rfl (RL.u (.lenS (.t rfl) Tryz.underlying9) rfl (RL.u (.lss (.t rfl) (.t rfl)) rfl (RL.m rfl rfl (RL.v (.pos rfl rfl) (.move (.t rfl)) rfl (RL.v (.pos rfl rfl) (.move (.t rfl)) rfl (RL.v (.pos rfl rfl) (.idxS (.g rfl (fun h => h)) (.g rfl (fun h => h)) Tryz.underlying9 (fun hW => by simp only [zb] at hW; omega)) rfl (RL.v (.pos rfl rfl) (.eql (.g rfl (fun h => h)) .c) rfl (RL.v (.pos rfl rfl) (.move (.g rfl (fun h => h))) rfl (RL.v (.negG rfl rfl) (.move (.t rfl)) rfl (RL.v (.negG rfl rfl) (.move (.t rfl)) rfl ?_)))))))))))))
  refine RL.v (.negG rfl rfl) (.idxS (.g rfl (fun h => h)) (.g rfl (fun h => h)) Tryz.underlying9 (fun hW => by simp only [zb] at hW; omega)) rfl (RL.v (.negG rfl rfl) (.eql (.g rfl (fun h => h)) .c) rfl (RL.v (.pos rfl rfl) (.or (.g rfl (fun h => h)) (.g rfl (fun h => h))) rfl (RL.v (.pos rfl rfl) (.move (.g rfl (fun h => h))) rfl (RL.v (.negG rfl rfl) (.move (.t rfl)) rfl (RL.v (.negG rfl rfl) (.move (.t rfl)) rfl ?_)))))
  refine RL.v (.negG rfl rfl) (.idxS (.g rfl (fun h => h)) (.g rfl (fun h => h)) Tryz.underlying9 (fun hW => by simp only [zb] at hW; omega)) rfl (RL.v (.negG rfl rfl) (.eql (.g rfl (fun h => h)) .c) rfl (RL.v (.pos rfl rfl) (.or (.g rfl (fun h => h)) (.g rfl (fun h => h))) rfl (RL.v (.pos rfl rfl) (.move (.g rfl (fun h => h))) rfl (RL.v (.negG rfl rfl) (.move (.t rfl)) rfl (RL.v (.negG rfl rfl) (.move (.t rfl)) rfl ?_)))))
  refine RL.v (.negG rfl rfl) (.idxS (.g rfl (fun h => h)) (.g rfl (fun h => h)) Tryz.underlying9 (fun hW => by simp only [zb] at hW; omega)) rfl (RL.v (.negG rfl rfl) (.eql (.g rfl (fun h => h)) .c) rfl (RL.v (.pos rfl rfl) (.or (.g rfl (fun h => h)) (.g rfl (fun h => h))) rfl (RL.u (.and (.t rfl) (.g rfl (fun h => h))) rfl (RL.nil (CW.id ?_)))))
  refine CW.cond rfl ?_ ?_ <;> intro hb1 <;> try simp only [zb] at hb1
  ·refine CW.skip (CW.id (CW.block ?_))
   refine CW.region (RL.m rfl rfl (RL.u (.add (.t rfl) .c (fun _ => by omega)) rfl (RL.a rfl rfl ?_)))
   refine RL.nil fun a hs => Exists.intro (k + 1) ⟨hs.keep [0, 1], ?_, ?_⟩
   ·exact ⟨rfl, by omega, by omega, by rw [← hkF, blankTo_step (by omega) (by omega) (by simp only [isBlank, zb]; simp_all)]⟩
   ·show Int.toNat _ < Int.toNat _; omega
  ·refine CW.exit (CW.at [Y 1 (i64 k)] rfl ?_)
   refine CW.sr (RL.m rfl rfl (RL.a rfl rfl (RL.nil (CW.id (CW.ret (hE.r1 rfl rfl ?_))))))
   clear hE
   have hk : k = blankTo s i := by
    rw [← hkF]
    by_cases hl : k < len s
    ·exact (blankTo_stop (by omega) hl (by simp only [isBlank, zb]; simp_all)).symm
    ·exact (blankTo_end (by omega)).symm
   exact ⟨by rw [← hk], rfl⟩

/- loupe/louperef01.run -/
theorem run1_c (s : Str) (i : Int) (w : World) (h0 : 0 ≤ i) (h1 : i ≤ len s) (hb : len s ≤ 9223372036854775807) :
  Calls Tryz.prog 109 [(str s), (i64 i)].toArray w fun e w' => e = .returned (i64 (runTo s i)) ∧ w' = w := by
 refine CW.enter1 Tryz.func109 rfl Tryz.ntmps109 (Nat.le_of_ble_eq_true rfl) fun Q hE => ?_
 refine CW.weaken [0, 1] (L' := [Y 0 (str s), Y 1 (i64 i)]) ?_ rfl
 refine CW.sr (RL.u (.assign .c) rfl (RL.nil (CW.id (CW.seq ?_))))
 refine CW.block ?_
 refine CW.loop (σ := Int) (fun k => [Y 0 (str s), Y 1 (i64 k)]) (fun k wl => w = wl ∧ i ≤ k ∧ k ≤ len s ∧ runTo s k = runTo s i) (fun k => (len s - k).toNat) i [0, 1] rfl ?_ ?_
 ·exact ⟨rfl, by omega, by omega, rfl⟩
 ·rintro k wl ⟨rfl, hk0, hk1, hkF⟩
  have hby := byteAt_bd s k
  refine CW.seq (CW.sr (RL.m rfl rfl (RL.m rfl rfl (RL.u (.lenS (.t rfl) Tryz.underlying9) rfl (RL.u (.lss (.t rfl) (.t rfl)) rfl (RL.m rfl rfl (RL.v (.pos rfl rfl) (.move (.t rfl)) rfl (RL.v (.pos rfl rfl) (.move (.t rfl)) rfl (RL.v (.pos rfl rfl) (.idxS (.g rfl (fun h => h)) (.g rfl (fun h => h)) Tryz.underlying9 (fun hW => by simp only [zb] at hW; omega)) rfl (RL.v (.pos rfl rfl) (.geq (.g rfl (fun h => h)) .c) rfl (RL.u (.and (.t rfl) (.g rfl (fun h => h))) rfl (RL.m rfl rfl (RL.v (.pos rfl rfl) (.move (.t rfl)) rfl ?_)))))))))))))
  refine RL.v (.pos rfl rfl) (.move (.t rfl)) rfl (RL.v (.pos rfl rfl) (.idxS (.g rfl (fun h => h)) (.g rfl (fun h => h)) Tryz.underlying9 (fun hW => by simp only [zb] at hW; omega)) rfl (RL.v (.pos rfl rfl) (.leq (.g rfl (fun h => h)) .c) rfl (RL.u (.and (.t rfl) (.g rfl (fun h => h))) rfl (RL.nil (CW.id ?_)))))
  refine CW.cond rfl ?_ ?_ <;> intro hb1 <;> try simp only [zb] at hb1
  ·refine CW.skip (CW.id (CW.block ?_))
   refine CW.region (RL.m rfl rfl (RL.u (.add (.t rfl) .c (fun _ => by omega)) rfl (RL.a rfl rfl ?_)))
   refine RL.nil fun a hs => Exists.intro (k + 1) ⟨hs.keep [0, 1], ?_, ?_⟩
   ·exact ⟨rfl, by omega, by omega, by rw [← hkF, runTo_step (by omega) (by omega) (by simp only [isFig, zb]; omega)]⟩
   ·show Int.toNat _ < Int.toNat _; omega
  ·refine CW.exit (CW.at [Y 1 (i64 k)] rfl ?_)
   refine CW.sr (RL.m rfl rfl (RL.a rfl rfl (RL.nil (CW.id (CW.ret (hE.r1 rfl rfl ?_))))))
   have hk : k = runTo s i := by
    rw [← hkF]
    by_cases hl : k < len s
    ·exact (runTo_stop (by omega) hl (by simp only [isFig, zb]; omega)).symm
    ·exact (runTo_end (by omega)).symm
   exact ⟨by rw [← hk], rfl⟩

/- loupe/louperef03.utf -/
theorem utf3_c (n : Int) (w : World) (h : 0 ≤ n ∧ n ≤ 1114111) (hs : n < 55296 ∨ 57343 < n) :
  Calls Tryz.prog 137 [(i64 n)].toArray w fun e w' => e = .returned (str (toStr (Lib.encodeRuneZ n))) ∧ Ext w w' := by
 refine CW.enter1 Tryz.func137 rfl Tryz.ntmps137 (Nat.le_of_ble_eq_true rfl) fun Q hE => ?_
 have hS : St w nM w nM [] := St.start ⟨fun _ _ _ h => by cases h⟩
 refine CW.weaken [0] (L' := [Y 0 (i64 n)]) ?_ rfl
 refine CW.sr (RL.u (.assign .c) rfl (RL.nil (CW.id (CW.seq ?_))))
 refine CW.sr (RL.m rfl rfl (RL.u (.lss (.t rfl) .c) rfl (RL.nil (CW.id ?_))))
 refine CW.cond rfl ?_ ?_ <;> intro hb1 <;> try simp only [zb] at hb1
 ·refine CW.sr (RL.m rfl rfl (RL.u (.cvtK (r := n) (.t rfl) Tryz.underlying3 Tryz.underlying5 (fun _ => by exact Eng.wrap_u8 (by omega))) rfl ?_))
  refine RL.buildSlice (n := 1) (sz := 1) (e := 5) (vs := [(0, (.int .u8 n))]) (cs := [(.int .u8 n)]) hS (.cons (.t rfl) .nil) rfl rfl (fun w => by kernel_rfl) rfl (fun v1 w2 M3 hS4 hle5 => ?_)
  replace hS4 : St w nM w2 M3 [.own 5 1 v1 (([n] : List Int)).length ((([n] : List Int)).flatMap u8I)] := hS4
  refine RL.u (.b2s hS4 extEq (hS4.sl (i := 0) rfl) (.t rfl) Tryz.underlying63 Tryz.underlying5 Tryz.underlying9) rfl (RL.a rfl rfl (RL.nil (CW.id ?_)))
  refine CW.ret (hE.r1 rfl rfl ?_)
  refine ⟨?_, hS4.low⟩
  rw [show Lib.encodeRuneZ n = _ from Lib.encodeRuneZ_one (by omega) (by omega)]
 ·refine CW.skip (CW.id (CW.seq (CW.sr (RL.m rfl rfl (RL.u (.lss (.t rfl) .c) rfl (RL.nil (CW.id ?_)))))))
  refine CW.cond rfl ?_ ?_ <;> intro hb2 <;> try simp only [zb] at hb2
  ·refine CW.sr (RL.m rfl rfl (RL.u (.quo (.t rfl) .c (fun _ => by omega)) rfl (RL.u (.add .c (.t rfl) (fun _ => by omega)) rfl (RL.u (.cvtK (r := 192 + (n / 64)) (.t rfl) Tryz.underlying3 Tryz.underlying5 (fun _ => by exact Eng.wrap_u8 (by omega))) rfl (RL.m rfl rfl (RL.u (.rem (.t rfl) .c (fun _ => by omega)) rfl (RL.u (.add .c (.t rfl) (fun _ => by omega)) rfl (RL.u (.cvtK (r := 128 + (n % 64)) (.t rfl) Tryz.underlying3 Tryz.underlying5 (fun _ => by exact Eng.wrap_u8 (by omega))) rfl ?_))))))))
   refine RL.buildSlice (n := 2) (sz := 1) (e := 5) (vs := [(0, (.int .u8 (192 + (n / 64)))), (1, (.int .u8 (128 + (n % 64))))]) (cs := [(.int .u8 (192 + (n / 64))), (.int .u8 (128 + (n % 64)))]) hS (.cons (.t rfl) (.cons (.t rfl) .nil)) rfl rfl (fun w => by kernel_rfl) rfl (fun v6 w7 M8 hS9 hle10 => ?_)
   replace hS9 : St w nM w7 M8 [.own 5 1 v6 (([192 + (n / 64), 128 + (n % 64)] : List Int)).length ((([192 + (n / 64), 128 + (n % 64)] : List Int)).flatMap u8I)] := hS9
   refine RL.u (.b2s hS9 extEq (hS9.sl (i := 0) rfl) (.t rfl) Tryz.underlying63 Tryz.underlying5 Tryz.underlying9) rfl (RL.a rfl rfl (RL.nil (CW.id ?_)))
   refine CW.ret (hE.r1 rfl rfl ?_)
   refine ⟨?_, hS9.low⟩
   rw [show Lib.encodeRuneZ n = _ from Lib.encodeRuneZ_two (by omega) (by omega)]
  ·refine CW.skip (CW.id (CW.seq (CW.sr (RL.m rfl rfl (RL.u (.lss (.t rfl) .c) rfl (RL.nil (CW.id ?_)))))))
   refine CW.cond rfl ?_ ?_ <;> intro hb3 <;> try simp only [zb] at hb3
   ·refine CW.sr (RL.m rfl rfl (RL.u (.quo (.t rfl) .c (fun _ => by omega)) rfl (RL.u (.add .c (.t rfl) (fun _ => by omega)) rfl (RL.u (.cvtK (r := 224 + (n / 4096)) (.t rfl) Tryz.underlying3 Tryz.underlying5 (fun _ => by exact Eng.wrap_u8 (by omega))) rfl (RL.m rfl rfl (RL.u (.quo (.t rfl) .c (fun _ => by omega)) rfl (RL.u (.rem (.t rfl) .c (fun _ => by omega)) rfl (RL.u (.add .c (.t rfl) (fun _ => by omega)) rfl (RL.u (.cvtK (r := 128 + ((n / 64) % 64)) (.t rfl) Tryz.underlying3 Tryz.underlying5 (fun _ => by exact Eng.wrap_u8 (by omega))) rfl (RL.m rfl rfl (RL.u (.rem (.t rfl) .c (fun _ => by omega)) rfl (RL.u (.add .c (.t rfl) (fun _ => by omega)) rfl (RL.u (.cvtK (r := 128 + (n % 64)) (.t rfl) Tryz.underlying3 Tryz.underlying5 (fun _ => by exact Eng.wrap_u8 (by omega))) rfl ?_)))))))))))))
    refine RL.buildSlice (n := 3) (sz := 1) (e := 5) (vs := [(0, (.int .u8 (224 + (n / 4096)))), (1, (.int .u8 (128 + ((n / 64) % 64)))), (2, (.int .u8 (128 + (n % 64))))]) (cs := [(.int .u8 (224 + (n / 4096))), (.int .u8 (128 + ((n / 64) % 64))), (.int .u8 (128 + (n % 64)))]) hS (.cons (.t rfl) (.cons (.t rfl) (.cons (.t rfl) .nil))) rfl rfl (fun w => by kernel_rfl) rfl (fun v11 w12 M13 hS14 hle15 => ?_)
    replace hS14 : St w nM w12 M13 [.own 5 1 v11 (([224 + (n / 4096), 128 + ((n / 64) % 64), 128 + (n % 64)] : List Int)).length ((([224 + (n / 4096), 128 + ((n / 64) % 64), 128 + (n % 64)] : List Int)).flatMap u8I)] := hS14
    refine RL.u (.b2s hS14 extEq (hS14.sl (i := 0) rfl) (.t rfl) Tryz.underlying63 Tryz.underlying5 Tryz.underlying9) rfl (RL.a rfl rfl (RL.nil (CW.id ?_)))
    refine CW.ret (hE.r1 rfl rfl ?_)
    refine ⟨?_, hS14.low⟩
    rw [show Lib.encodeRuneZ n = _ from Lib.encodeRuneZ_three (by omega)]
   ·refine CW.skip (CW.id (CW.sr (RL.m rfl rfl (RL.u (.quo (.t rfl) .c (fun _ => by omega)) rfl (RL.u (.add .c (.t rfl) (fun _ => by omega)) rfl (RL.u (.cvtK (r := 240 + (n / 262144)) (.t rfl) Tryz.underlying3 Tryz.underlying5 (fun _ => by exact Eng.wrap_u8 (by omega))) rfl (RL.m rfl rfl (RL.u (.quo (.t rfl) .c (fun _ => by omega)) rfl (RL.u (.rem (.t rfl) .c (fun _ => by omega)) rfl (RL.u (.add .c (.t rfl) (fun _ => by omega)) rfl (RL.u (.cvtK (r := 128 + ((n / 4096) % 64)) (.t rfl) Tryz.underlying3 Tryz.underlying5 (fun _ => by exact Eng.wrap_u8 (by omega))) rfl (RL.m rfl rfl (RL.u (.quo (.t rfl) .c (fun _ => by omega)) rfl (RL.u (.rem (.t rfl) .c (fun _ => by omega)) rfl ?_))))))))))))))
    refine RL.u (.add .c (.t rfl) (fun _ => by omega)) rfl (RL.u (.cvtK (r := 128 + ((n / 64) % 64)) (.t rfl) Tryz.underlying3 Tryz.underlying5 (fun _ => by exact Eng.wrap_u8 (by omega))) rfl (RL.m rfl rfl (RL.u (.rem (.t rfl) .c (fun _ => by omega)) rfl (RL.u (.add .c (.t rfl) (fun _ => by omega)) rfl (RL.u (.cvtK (r := 128 + (n % 64)) (.t rfl) Tryz.underlying3 Tryz.underlying5 (fun _ => by exact Eng.wrap_u8 (by omega))) rfl ?_)))))
    refine RL.buildSlice (n := 4) (sz := 1) (e := 5) (vs := [(0, (.int .u8 (240 + (n / 262144)))), (1, (.int .u8 (128 + ((n / 4096) % 64)))), (2, (.int .u8 (128 + ((n / 64) % 64)))), (3, (.int .u8 (128 + (n % 64))))]) (cs := [(.int .u8 (240 + (n / 262144))), (.int .u8 (128 + ((n / 4096) % 64))), (.int .u8 (128 + ((n / 64) % 64))), (.int .u8 (128 + (n % 64)))]) hS (.cons (.t rfl) (.cons (.t rfl) (.cons (.t rfl) (.cons (.t rfl) .nil)))) rfl rfl (fun w => by kernel_rfl) rfl (fun v16 w17 M18 hS19 hle20 => ?_)
    replace hS19 : St w nM w17 M18 [.own 5 1 v16 (([240 + (n / 262144), 128 + ((n / 4096) % 64), 128 + ((n / 64) % 64), 128 + (n % 64)] : List Int)).length ((([240 + (n / 262144), 128 + ((n / 4096) % 64), 128 + ((n / 64) % 64), 128 + (n % 64)] : List Int)).flatMap u8I)] := hS19
    refine RL.u (.b2s hS19 extEq (hS19.sl (i := 0) rfl) (.t rfl) Tryz.underlying63 Tryz.underlying5 Tryz.underlying9) rfl (RL.a rfl rfl (RL.nil (CW.id ?_)))
    refine CW.ret (hE.r1 rfl rfl ?_)
    refine ⟨?_, hS19.low⟩
    rw [show Lib.encodeRuneZ n = _ from Lib.encodeRuneZ_four (by omega) (by omega)]

/- loupe/louperef01.Make -/
theorem make1_c (neg : Bool) (s : Str) (x : Int) (w : World) (hb : len s ≤ 1099511627776) :
  Calls Tryz.prog 111 [(.bool neg), (str s), (i64 x)].toArray w fun e w' => e = .returned (.tuple #[(ndV ((mk1 neg s x).1)), (i64 ((mk1 neg s x).2))]) ∧ Ext w w' := by
 refine CW.enter1 Tryz.func111 rfl Tryz.ntmps111 (Nat.le_of_ble_eq_true rfl) fun Q hE => ?_
 have := len_nonneg s
 have hS : St w nM w nM [] := St.start ⟨fun _ _ _ h => by cases h⟩
 refine CW.weaken [0, 1, 2] (L' := [Y 0 (.bool neg), Y 1 (str s), Y 2 (i64 x)]) ?_ rfl
 refine CW.sr ?_
 refine RL.alloc hS Tryz.zeroValue38 rfl (fun w1 b2 hS3 => ?_)
 refine RL.u (.assign .c) rfl (RL.nil (CW.id ?_))
 refine CW.seq (CW.sr (RL.m rfl rfl ?_))
 refine RL.callS .none Tryz.call89 (.cons (.t rfl) .nil) (fun _ => (figs_c s _ (by omega))) rfl ?_
 refine RL.u (.not (.t rfl)) rfl ?_
 refine RL.nil (CW.at [Y 0 (.bool neg), Y 1 (str s), Y 2 (i64 x), Y 6 (.pointer (some ⟨b2, 0, none⟩)), Y 10 (.bool (!(figs s)))] rfl ?_)
 refine CW.cond rfl ?_ ?_ <;> intro hb1 <;> try simp only [zb] at hb1
 ·refine CW.sr (RL.u (.build (vs := []) (v := (.agg #[(i64 0), (i64 0), (str []), (str []), (.bool false), (i64 0)])) .nil (fun w => by kernel_rfl)) rfl ?_)
  refine RL.st hS3 (i := 0) rfl (.t rfl) (.t rfl) Tryz.sizeOf38 rfl rfl rfl rfl rfl (fun w4 hS5 => ?_)
  refine RL.u (.assign .c) rfl (RL.nil (CW.id ?_))
  refine CW.ret (hE.R2 rfl (.boxN hS5 (i := 0) rfl rfl Tryz.isAgg38 Tryz.sizeOf38) (show RV _ _ _ (.tmp _) _ from rfl) ?_)
  clear hE
  refine ⟨?_, hS5.low⟩
  have hm : mk1 neg s x = (⟨0, 0, [], [], false, 0⟩, 4) := by
   (try subst hyy); (try subst hut); (try subst ht)
   unfold mk1
   simp_all
   try ((repeat' split) <;> first | rfl | omega)
  rw [hm]; try rfl
 ·refine CW.skip (CW.id (CW.seq (CW.block ?_)))
  refine CW.loop (σ := Str) (fun t => [Y 0 (.bool neg), Y 1 (str t), Y 2 (i64 x), Y 6 (.pointer (some ⟨b2, 0, none⟩))]) (fun t wl => St w nM wl nM [.box b2 [(i64 0), (i64 0), (str []), (str []), (.bool false), (i64 0)] 38] ∧ dropZ t = dropZ s ∧ len t ≤ len s) (fun t => t.length) s [0, 1, 2, 6] rfl ?_ ?_
  ·refine ⟨hS3, ?_⟩; exact ⟨rfl, by omega⟩
  ·rintro t wl ⟨hS6, hF, hl⟩
   have hbt := byteAt_bd t 0
   have hlt := len_nonneg t
   have hfl := from_bd t 1
   refine CW.seq (CW.sr (RL.m rfl rfl (RL.u (.lenS (.t rfl) Tryz.underlying9) rfl (RL.u (.gtr (.t rfl) .c) rfl (RL.m rfl rfl (RL.v (.pos rfl rfl) (.move (.t rfl)) rfl (RL.v (.pos rfl rfl) (.idxS (.g rfl (fun h => h)) .c Tryz.underlying9 (fun hW => by simp only [zb] at hW; omega)) rfl (RL.v (.pos rfl rfl) (.eql (.g rfl (fun h => h)) .c) rfl (RL.u (.and (.t rfl) (.g rfl (fun h => h))) rfl (RL.nil (CW.id ?_)))))))))))
   refine CW.cond rfl ?_ ?_ <;> intro hb2 <;> try simp only [zb] at hb2
   ·refine CW.skip (CW.id (CW.block ?_))
    refine CW.region (RL.m rfl rfl (RL.u (.slSl (.t rfl) .c Tryz.underlying9 (fun _ => by omega)) rfl (RL.a rfl rfl ?_)))
    refine RL.nil fun a hs => Exists.intro (Eng.from' t 1) ⟨hs.keep [0, 1, 2, 6], ?_, ?_⟩
    ·refine ⟨hS6, ?_⟩
     exact ⟨by rw [dropZ_step hb2, hF], by omega⟩
    ·show List.length _ < List.length _; have := from_len t 1 (by omega) (by omega); unfold len at *; omega
   ·have ht : t = dropZ s := by rw [← hF, dropZ_stop (by rintro ⟨h1, h2⟩; rcases hb2 with h | h; exact h h1; exact h h2)]
    refine CW.exit (CW.at [Y 0 (.bool neg), Y 1 (str t), Y 2 (i64 x), Y 6 (.pointer (some ⟨b2, 0, none⟩))] rfl ?_)
    refine CW.seq (CW.sr (RL.m rfl rfl (RL.u (.seql (.t rfl) .c) rfl (RL.nil (CW.id ?_)))))
    refine CW.cond rfl ?_ ?_ <;> intro hb3 <;> try simp only [zb] at hb3
    ·refine CW.sr (RL.u (.build (vs := [(0, (i64 3))]) (v := (.agg #[(i64 3), (i64 0), (str []), (str []), (.bool false), (i64 0)])) (.cons .c .nil) (fun w => by kernel_rfl)) rfl ?_)
     refine RL.st hS6 (i := 0) rfl (.t rfl) (.t rfl) Tryz.sizeOf38 rfl rfl rfl rfl rfl (fun w7 hS8 => ?_)
     refine RL.u (.assign .c) rfl (RL.nil (CW.id ?_))
     refine CW.ret (hE.R2 rfl (.boxN hS8 (i := 0) rfl rfl Tryz.isAgg38 Tryz.sizeOf38) (show RV _ _ _ (.tmp _) _ from rfl) ?_)
     clear hE
     refine ⟨?_, hS8.low⟩
     have hm : mk1 neg s x = (⟨3, 0, [], [], false, 0⟩, 0) := by
      (try subst hyy); (try subst hut); (try subst ht)
      unfold mk1
      simp_all
      try ((repeat' split) <;> first | rfl | omega)
     rw [hm]; try rfl
    ·refine CW.skip (CW.id (CW.seq (CW.sr (RL.m rfl rfl (RL.u (.lss (.t rfl) .c) rfl (RL.m rfl rfl (RL.v (.neg rfl rfl) (.move (.t rfl)) rfl (RL.v (.neg rfl rfl) (.gtr (.g rfl (fun h => h)) .c) rfl (RL.u (.or (.t rfl) (.g rfl (fun h => h))) rfl (RL.nil (CW.id ?_)))))))))))
     refine CW.cond rfl ?_ ?_ <;> intro hb4 <;> try simp only [zb] at hb4
     ·refine CW.sr (RL.u (.build (vs := []) (v := (.agg #[(i64 0), (i64 0), (str []), (str []), (.bool false), (i64 0)])) .nil (fun w => by kernel_rfl)) rfl ?_)
      refine RL.st hS6 (i := 0) rfl (.t rfl) (.t rfl) Tryz.sizeOf38 rfl rfl rfl rfl rfl (fun w9 hS10 => ?_)
      refine RL.u (.assign .c) rfl (RL.nil (CW.id ?_))
      refine CW.ret (hE.R2 rfl (.boxN hS10 (i := 0) rfl rfl Tryz.isAgg38 Tryz.sizeOf38) (show RV _ _ _ (.tmp _) _ from rfl) ?_)
      clear hE
      refine ⟨?_, hS10.low⟩
      have hm : mk1 neg s x = (⟨0, 0, [], [], false, 0⟩, 2) := by
       (try subst hyy); (try subst hut); (try subst ht)
       unfold mk1
       simp_all
       try ((repeat' split) <;> first | rfl | omega)
      rw [hm]; try rfl
     ·refine CW.skip (CW.id (CW.seq (CW.block ?_)))
      refine CW.loop (σ := Str × Int) (fun (u, y) => [Y 0 (.bool neg), Y 1 (str u), Y 2 (i64 y), Y 6 (.pointer (some ⟨b2, 0, none⟩))]) (fun (u, y) wl => St w nM wl nM [.box b2 [(i64 0), (i64 0), (str []), (str []), (.bool false), (i64 0)] 38] ∧ trimZ u = trimZ (dropZ s) ∧ len u ≤ len (dropZ s) ∧ y + len u = x + len (dropZ s)) (fun (u, y) => u.length) ((t, x)) [0, 1, 2, 6] rfl ?_ ?_
      ·refine ⟨hS6, ?_⟩; exact ⟨by rw [ht], by rw [ht]; omega, by rw [ht]⟩
      ·rintro ⟨u, y⟩ wl ⟨hS11, hu, hul, hy⟩
       have htl : len t = len (dropZ s) := by rw [ht]
       have hub := byteAt_bd u (len u - 1)
       have hp1 := trimZ_pos s (by rw [← ht]; exact hb3)
       have hp2 := trimZ_len u
       rw [hu] at hp2
       have hln := len_nonneg u
       refine CW.seq (CW.sr (RL.m rfl rfl (RL.m rfl rfl (RL.u (.lenS (.t rfl) Tryz.underlying9) rfl (RL.u (.sub (.t rfl) .c (fun _ => by omega)) rfl (RL.u (.idxS (.t rfl) (.t rfl) Tryz.underlying9 (fun _ => by omega)) rfl (RL.u (.eql (.t rfl) .c) rfl (RL.nil (CW.id ?_)))))))))
       refine CW.cond rfl ?_ ?_ <;> intro hb5 <;> try simp only [zb] at hb5
       ·refine CW.skip (CW.id (CW.block (CW.sr (RL.m rfl rfl (RL.m rfl rfl (RL.u (.lenS (.t rfl) Tryz.underlying9) rfl (RL.u (.sub (.t rfl) .c (fun _ => by omega)) rfl (RL.u (.slSh (.t rfl) (.t rfl) Tryz.underlying9 (fun _ => by omega)) rfl (RL.a rfl rfl (RL.nil (CW.id ?_)))))))))))
        refine CW.region (RL.m rfl rfl (RL.u (.add (.t rfl) .c (fun _ => by omega)) rfl (RL.a rfl rfl ?_)))
        refine RL.nil fun a hs => Exists.intro ((Eng.sub u 0 (len u - 1), y + 1)) ⟨hs.keep [0, 1, 2, 6], ?_, ?_⟩
        ·refine ⟨hS11, ?_⟩
         exact ⟨by rw [trimZ_step (by omega) hb5, hu], by rw [sub_len (by omega) (by omega) (by omega)]; omega, by rw [sub_len (by omega) (by omega) (by omega)]; omega⟩
        ·show List.length _ < List.length _; have := sub_len (s := u) (i := 0) (j := len u - 1) (by omega) (by omega) (by omega); unfold len at *; omega
       ·have hut : u = trimZ (dropZ s) := by rw [← hu, trimZ_stop (by omega) hb5]
        have hyy : y = x + (len (dropZ s) - len (trimZ (dropZ s))) := by rw [← hut]; omega
        refine CW.exit (CW.at [Y 0 (.bool neg), Y 1 (str u), Y 2 (i64 y), Y 6 (.pointer (some ⟨b2, 0, none⟩))] rfl ?_)
        refine CW.seq (CW.sr (RL.m rfl rfl (RL.u (.lenS (.t rfl) Tryz.underlying9) rfl (RL.u (.gtr (.t rfl) .c) rfl (RL.m rfl rfl (RL.v (.neg rfl rfl) (.move (.t rfl)) rfl (RL.v (.neg rfl rfl) (.lss (.g rfl (fun h => h)) .c) rfl (RL.u (.or (.t rfl) (.g rfl (fun h => h))) rfl (RL.m rfl rfl (RL.v (.neg rfl rfl) (.move (.t rfl)) rfl (RL.v (.neg rfl rfl) (.lenS (.g rfl (fun h => h)) Tryz.underlying9) rfl (RL.v (.neg rfl rfl) (.move (.t rfl)) rfl (RL.v (.neg rfl rfl) (.add (.g rfl (fun h => h)) (.g rfl (fun h => h)) (fun hW => by simp only [zb] at hW; omega)) rfl ?_)))))))))))))
        refine RL.v (.neg rfl rfl) (.gtr (.g rfl (fun h => h)) .c) rfl (RL.u (.or (.t rfl) (.g rfl (fun h => h))) rfl (RL.nil (CW.id ?_)))
        refine CW.cond rfl ?_ ?_ <;> intro hb6 <;> try simp only [zb] at hb6
        ·refine CW.sr (RL.u (.build (vs := []) (v := (.agg #[(i64 0), (i64 0), (str []), (str []), (.bool false), (i64 0)])) .nil (fun w => by kernel_rfl)) rfl ?_)
         refine RL.st hS11 (i := 0) rfl (.t rfl) (.t rfl) Tryz.sizeOf38 rfl rfl rfl rfl rfl (fun w12 hS13 => ?_)
         refine RL.u (.assign .c) rfl (RL.nil (CW.id ?_))
         refine CW.ret (hE.R2 rfl (.boxN hS13 (i := 0) rfl rfl Tryz.isAgg38 Tryz.sizeOf38) (show RV _ _ _ (.tmp _) _ from rfl) ?_)
         clear hE
         refine ⟨?_, hS13.low⟩
         have hm : mk1 neg s x = (⟨0, 0, [], [], false, 0⟩, 2) := by
          (try subst hyy); (try subst hut); (try subst ht)
          unfold mk1
          simp_all
          try ((repeat' split) <;> first | rfl | omega)
         rw [hm]; try rfl
        ·refine CW.skip (CW.id (CW.sr (RL.m rfl rfl (RL.m rfl rfl (RL.m rfl rfl (RL.u (.build (vs := [(0, (i64 3)), (3, (str u)), (4, (.bool neg)), (5, (i64 y))]) (v := (.agg #[(i64 3), (i64 0), (str []), (str u), (.bool neg), (i64 y)])) (.cons .c (.cons (.t rfl) (.cons (.t rfl) (.cons (.t rfl) .nil)))) (fun w => by kernel_rfl)) rfl ?_))))))
         refine RL.st hS11 (i := 0) rfl (.t rfl) (.t rfl) Tryz.sizeOf38 rfl rfl rfl rfl rfl (fun w14 hS15 => ?_)
         refine RL.u (.assign .c) rfl (RL.nil (CW.id ?_))
         refine CW.ret (hE.R2 rfl (.boxN hS15 (i := 0) rfl rfl Tryz.isAgg38 Tryz.sizeOf38) (show RV _ _ _ (.tmp _) _ from rfl) ?_)
         clear hE
         refine ⟨?_, hS15.low⟩
         have hm : mk1 neg s x = (⟨3, 0, [], u, neg, y⟩, 0) := by
          (try subst hyy); (try subst hut); (try subst ht)
          unfold mk1
          simp_all
          try ((repeat' split) <;> first | rfl | omega)
         rw [hm]; try rfl

end Go.Proofs.YtjfaikgooldcbaaGreatDoor
set_option maxRecDepth 100000
namespace Go.Proofs.YtjfaikgooldcbaaGreatDoor
open Go.Eng

end Go.Proofs.YtjfaikgooldcbaaGreatDoor
