/-

-/
import Derived.Test.YtjfaikgooldcbaaGreatDoorZd4
import Derived.Laws.BitsLemmas
import Derived.Test.YtjfaikgooldcbaaGreatDoorZd3
import Derived.Test.YtjfaikgooldcbaaGreatDoorProg
import Derived.Test.YtjfaikgooldcbaaGreatDoorZd10
set_option linter.unusedVariables false
set_option linter.unusedSimpArgs false
namespace Go.Proofs.YtjfaikgooldcbaaGreatDoor
open Go.Eng

/- internal/strconv.lower -/
set_option maxRecDepth 100000 in
theorem lower_c (c : Int) (w : World) (h0 : 0 ≤ c) (h1 : c ≤ 255) :
  Calls Tryz.prog 190 [(.int .u8 c)].toArray w fun e w' => e = .returned (.int .u8 (lowV c)) ∧ w' = w := by
 refine CW.enter1 Tryz.func190 rfl Tryz.ntmps190 (Nat.le_of_ble_eq_true rfl) fun Q hE => ?_
 refine CW.weaken [0] (L' := [Y 0 (.int .u8 c)]) ?_ rfl
 refine CW.sr ?_
 refine RL.u (.assign .c) rfl ?_
 refine RL.nil (CW.id ?_)
 refine CW.sr ?_
 refine RL.m rfl rfl (RL.u (.bin (v := .int .u8 (lowV c)) (.t rfl) .c (fun hW w _ => by simp [go_sem, binOp]; exact low_or (by omega) (by omega))) rfl (RL.a rfl rfl ?_))
 refine RL.nil (CW.id ?_)
 refine CW.ret (hE.r1 rfl rfl ?_)
 exact ⟨rfl, rfl⟩

/- internal/strconv.ParseUint -/
set_option maxRecDepth 100000 in
set_option maxHeartbeats 1000000 in
theorem pint_c (l : Str) (w : World) (hl : len l = 4) :
  Calls Tryz.prog 171 [(str l), (i64 16), (i64 16)].toArray w fun e w' => ∃ v, e = .returned v ∧ ∃ x er, (er = .nilIface ∨ ∃ u p, er = .iface u p) ∧ isNilV er = hexOk l ∧ (isNilV er = false → er = .iface 172 (i64 2)) ∧ (hexOk l = true → x = hexVal l) ∧ v = .tuple #[.int .u64 x, er] ∧ Ext w w' := by
 refine CW.enter1 Tryz.func171 rfl Tryz.ntmps171 (Nat.le_of_ble_eq_true rfl) fun Q hE => ?_
 have hil : len (ints l) = 4 := by rw [ints_len]; exact hl
 have hS : St w (fun _ _ => none) w (fun _ _ => none) [] := St.start ⟨fun _ _ _ h => by cases h⟩
 refine CW.weaken [0, 1, 2] (L' := [Y 0 (str l), Y 1 (i64 16), Y 2 (i64 16)]) ?_ rfl
 refine CW.sr ?_
 refine RL.u (.assign .c) rfl (RL.u (.assign .c) rfl ?_)
 refine RL.nil (CW.id ?_)
 refine CW.seq ?_
 refine CW.sr ?_
 refine RL.m rfl rfl (RL.u (.seql (.t rfl) .c) rfl ?_)
 refine RL.nil (CW.id ?_)
 refine CW.cond rfl (fun hb1 => ?_) (fun hb1 => ?_)
 ·try simp only [zb] at hb1
  exfalso; rw [hb1] at hl; exact absurd hl (by decide)
 ·try simp only [zb] at hb1
  refine CW.skip (CW.id ?_)
  refine CW.sr ?_
  refine RL.m rfl rfl (RL.u (.eql (.t rfl) .c) rfl (RL.a rfl rfl ?_))
  refine RL.nil (CW.id ?_)
  refine CW.sr ?_
  refine RL.m rfl rfl (RL.a rfl rfl ?_)
  refine RL.nil (CW.id ?_)
  refine CW.seq ?_
  refine CW.block ?_
  refine CW.sr ?_
  refine RL.m rfl rfl (RL.u (.leq .c (.t rfl)) rfl (RL.m rfl rfl (RL.v (.pos rfl rfl) (.move (.t rfl)) rfl (RL.v (.pos rfl rfl) (.leq (.g rfl (fun h => h)) .c) rfl (RL.u (.and (.t rfl) (.g rfl (fun h => h))) rfl ?_)))))
  refine RL.a rfl rfl ?_
  refine RL.nil (CW.id ?_)
  refine CW.cond rfl (fun _ => ?_) (fun h => by cases h)
  refine CW.skip (CW.id ?_)
  refine CW.seq ?_
  refine CW.sr ?_
  refine RL.m rfl rfl (RL.u (.eql (.t rfl) .c) rfl ?_)
  refine RL.nil (CW.id ?_)
  refine CW.cond rfl (fun h => by cases h) (fun _ => ?_)
  refine CW.sr ?_
  refine RL.m rfl rfl (RL.u (.lss (.t rfl) .c) rfl (RL.m rfl rfl (RL.v (.neg rfl rfl) (.move (.t rfl)) rfl (RL.v (.neg rfl rfl) (.gtr (.g rfl (fun h => h)) .c) rfl (RL.u (.or (.t rfl) (.g rfl (fun h => h))) rfl ?_)))))
  refine RL.nil (CW.id ?_)
  refine CW.cond rfl (fun h => by cases h) (fun _ => ?_)
  refine CW.skip (CW.id ?_)
  refine CW.sr ?_
  refine RL.u (.assign .c) rfl ?_
  refine RL.nil (CW.id ?_)
  refine CW.seq ?_
  refine CW.sr ?_
  refine RL.m rfl rfl ?_
  refine RL.nil (CW.id ?_)
  refine CW.block ?_
  refine CW.sr ?_
  refine RL.u (.eql (.t rfl) .c) rfl (RL.a rfl rfl ?_)
  refine RL.nil (CW.id ?_)
  refine CW.cond rfl (fun h => by cases h) (fun _ => ?_)
  refine CW.sr ?_
  refine RL.u (.eql (.t rfl) .c) rfl (RL.a rfl rfl ?_)
  refine RL.nil (CW.id ?_)
  refine CW.cond rfl (fun _ => ?_) (fun h => by cases h)
  refine CW.region ?_
  refine RL.u (.assign .c) rfl ?_
  refine RL.nil (CW.id ?_)
  refine CW.sr ?_
  refine RL.m rfl rfl (RL.u (.cvtK (r := 16) (.t rfl) Tryz.underlying3 Tryz.underlying139 (fun _ => by exact Eng.wrap_u64 (by omega))) rfl (RL.u (.bin (v := .int .u64 65536) .c (.t rfl) (fun _ w _ => by kernel_rfl)) rfl (RL.u (.bin (v := .int .u64 65535) (.t rfl) .c (fun _ w _ => by kernel_rfl)) rfl (RL.a rfl rfl ?_))))
  refine RL.nil (CW.id ?_)
  refine CW.sr ?_
  refine RL.u (.assign .c) rfl ?_
  refine RL.nil (CW.id ?_)
  refine CW.sr ?_
  refine RL.u (.assign .c) rfl ?_
  refine RL.nil (CW.id ?_)
  refine CW.seq ?_
  refine CW.sr ?_
  refine RL.m rfl rfl ?_
  refine RL.bytes hS (.t rfl) Tryz.underlying9 Tryz.underlying63 Tryz.underlying5 ((by omega)) rfl (fun v1 w2 M3 hS4 hle5 hsl6 => ?_)
  replace hS4 : St w (fun _ _ => none) w2 M3 [] := hS4
  refine RL.u (.lenT hsl6 (.t rfl) ⟨_, Tryz.underlying63⟩) rfl (RL.u (.move .c) rfl ?_)
  refine RL.nil (CW.at [Y 1 (i64 16), Y 8 (.bool false), Y 9 (str l), Y 10 (.int .u64 1152921504606846976), Y 11 (.int .u64 65535), Y 12 (.bool false), Y 13 (.int .u64 0), Y 99 v1, Y 100 (i64 (len (ints l))), Y 101 (i64 0)] rfl ?_)
  refine CW.block ?_
  refine CW.loop (σ := Int × Int) (fun (k, n) => [Y 1 (i64 16), Y 8 (.bool false), Y 9 (str l), Y 10 (.int .u64 1152921504606846976), Y 11 (.int .u64 65535), Y 12 (.bool false), Y 13 (.int .u64 n), Y 99 v1, Y 100 (i64 (len (ints l))), Y 101 (i64 k)]) (fun (k, n) wl => St w (fun _ _ => none) wl M3 [] ∧ Sl M3 1 (ints l).length v1 ((ints l).flatMap u8I) ∧ 0 ≤ k ∧ k ≤ 4 ∧ hexOk (Eng.sub l 0 k) = true ∧ n = hexVal (Eng.sub l 0 k)) (fun (k, n) => (4 - k).toNat) ((0, 0)) [1, 8, 9, 10, 11, 12, 13, 99, 100, 101] rfl ?_ ?_
  ·refine ⟨hS4, hsl6, ?_⟩; exact ⟨by omega, by omega, rfl, rfl⟩
  ·rintro ⟨k, n⟩ wl ⟨hS7, hsl6, hk0, hk1, hok, hn⟩
   refine CW.sr ?_
   refine RL.u (.lss (.t rfl) (.t rfl)) rfl ?_
   refine RL.nil (CW.id ?_)
   refine CW.seq ?_
   refine CW.cond rfl (fun hb7 => ?_) (fun hb7 => ?_)
   ·try simp only [zb] at hb7
    have hq : at' (ints l) k = byteAt l k := ints_at hk0 (by omega)
    have hby := byteAt_bd l k
    have hlf := low_facts (c := at' (ints l) k) (by omega) (by omega)
    have hbd := hex_bd hl hk0 (by omega) hok
    refine CW.skip (CW.id ?_)
    refine CW.seq ?_
    refine CW.block ?_
    refine CW.sr ?_
    refine RL.u (.idxT hsl6 (.t rfl) (.t rfl) Tryz.underlying63 Tryz.sizeOf5 (fun _ => by omega)) rfl (RL.u (.loadE1 (f := u8I) (i := k) (j := 0) (u := (.int .u8 (at' (ints l) k))) hS7 extEq hsl6 u8I_len (.t rfl) Tryz.isAgg5 (fun _ => by omega) rfl rfl) rfl (RL.a rfl rfl ?_))
    refine RL.nil (CW.id ?_)
    refine CW.sr ?_
    refine RL.u (.assign .c) rfl ?_
    refine RL.nil (CW.id ?_)
    refine CW.seq ?_
    refine CW.block ?_
    refine CW.sr ?_
    refine RL.m rfl rfl (RL.u (.eql (.t rfl) .c) rfl (RL.m rfl rfl (RL.v (.pos rfl rfl) (.move (.t rfl)) rfl (RL.u (.and (.t rfl) (.g rfl (fun h => h))) rfl (RL.a rfl rfl ?_)))))
    refine RL.nil (CW.id ?_)
    refine CW.cond rfl (fun h => by simp at h) (fun hb8 => ?_)
    try simp only [zb, Bool.and_false] at hb8
    refine CW.sr ?_
    refine RL.m rfl rfl (RL.u (.leq .c (.t rfl)) rfl (RL.m rfl rfl (RL.v (.pos rfl rfl) (.move (.t rfl)) rfl (RL.v (.pos rfl rfl) (.leq (.g rfl (fun h => h)) .c) rfl (RL.u (.and (.t rfl) (.g rfl (fun h => h))) rfl ?_)))))
    refine RL.a rfl rfl ?_
    refine RL.nil (CW.id ?_)
    refine CW.cond rfl (fun hb9 => ?_) (fun hb9 => ?_)
    ·try simp only [zb] at hb9
     refine CW.region ?_
     refine RL.m rfl rfl (RL.u (.subK (r := (at' (ints l) k) - 48) (.t rfl) .c (fun _ => by exact Eng.wrap_u8 (by omega))) rfl (RL.a rfl rfl ?_))
     refine RL.nil (CW.id ?_)
     refine CW.seq ?_
     refine CW.sr ?_
     refine RL.m rfl rfl (RL.m rfl rfl (RL.u (.cvtK (r := 16) (.t rfl) Tryz.underlying3 Tryz.underlying5 (fun _ => by exact Eng.wrap_u8 (by omega))) rfl (RL.u (.geq (.t rfl) (.t rfl)) rfl ?_)))
     refine RL.nil (CW.id ?_)
     refine CW.cond rfl (fun hb10 => ?_) (fun hb10 => ?_)
     ·try simp only [zb] at hb10
      exfalso; omega
     ·try simp only [zb] at hb10
      refine CW.skip (CW.id ?_)
      refine CW.seq ?_
      refine CW.sr ?_
      refine RL.m rfl rfl (RL.m rfl rfl (RL.u (.geq (.t rfl) (.t rfl)) rfl ?_))
      refine RL.nil (CW.id ?_)
      refine CW.cond rfl (fun hb11 => ?_) (fun hb11 => ?_)
      ·try simp only [zb] at hb11
       exfalso; omega
      ·try simp only [zb] at hb11
       refine CW.skip (CW.id ?_)
       refine CW.sr ?_
       refine RL.m rfl rfl (RL.m rfl rfl (RL.u (.cvtK (r := 16) (.t rfl) Tryz.underlying3 Tryz.underlying160 (fun _ => by exact Eng.wrap_u64 (by omega))) rfl (RL.u (.mulK (r := n * 16) (.t rfl) (.t rfl) (fun _ => by exact Eng.wrap_u64 (by omega))) rfl (RL.a rfl rfl ?_))))
       refine RL.nil (CW.id ?_)
       refine CW.sr ?_
       refine RL.m rfl rfl (RL.m rfl rfl (RL.u (.cvtK (r := (at' (ints l) k) - 48) (.t rfl) Tryz.underlying5 Tryz.underlying160 (fun _ => by exact Eng.wrap_u64 (by omega))) rfl (RL.u (.addK (r := (n * 16) + ((at' (ints l) k) - 48)) (.t rfl) (.t rfl) (fun _ => by exact Eng.wrap_u64 (by omega))) rfl (RL.a rfl rfl ?_))))
       refine RL.nil (CW.at [Y 1 (i64 16), Y 8 (.bool false), Y 9 (str l), Y 10 (.int .u64 1152921504606846976), Y 11 (.int .u64 65535), Y 12 (.bool false), Y 13 (.int .u64 (n * 16)), Y 17 (.int .u64 ((n * 16) + ((at' (ints l) k) - 48))), Y 99 v1, Y 100 (i64 (len (ints l))), Y 101 (i64 k)] rfl ?_)
       refine CW.seq ?_
       refine CW.sr ?_
       refine RL.m rfl rfl (RL.m rfl rfl (RL.u (.lss (.t rfl) (.t rfl)) rfl (RL.m rfl rfl (RL.v (.neg rfl rfl) (.move (.t rfl)) rfl (RL.v (.neg rfl rfl) (.move (.t rfl)) rfl ?_)))))
       refine RL.v (.neg rfl rfl) (.gtr (.g rfl (fun h => h)) (.g rfl (fun h => h))) rfl (RL.u (.or (.t rfl) (.g rfl (fun h => h))) rfl ?_)
       refine RL.nil (CW.id ?_)
       refine CW.cond rfl (fun hb12 => ?_) (fun hb12 => ?_)
       ·try simp only [zb] at hb12
        exfalso; omega
       ·try simp only [zb] at hb12
        refine CW.skip (CW.id ?_)
        refine CW.region ?_
        refine RL.m rfl rfl (RL.a rfl rfl ?_)
        refine RL.nil (CW.id ?_)
        refine CW.region ?_
        refine RL.u (.add (.t rfl) .c (fun _ => by omega)) rfl (RL.m rfl rfl ?_)
        refine RL.nil fun a hs => Exists.intro ((k + 1, (n * 16) + ((at' (ints l) k) - 48))) ⟨hs.keep [1, 8, 9, 10, 11, 12, 13, 99, 100, 101], ?_, ?_⟩
        ·refine ⟨hS7, hsl6, ?_⟩
         have hx : hexI (byteAt l k) = at' (ints l) k - 48 := by rw [← hq]; exact hex_fig hb9
         have hs := hex_step (s := l) (i := 0) (by omega) hk0 (by omega) hok (by omega)
         exact ⟨by omega, by omega, hs.1, by rw [hs.2, hx, ← hn]⟩
        ·show Int.toNat _ < Int.toNat _; omega
    ·try simp only [zb] at hb9
     refine CW.sr ?_
     refine RL.m rfl rfl ?_
     refine RL.callS .none Tryz.call190 (.cons (.t rfl) .nil) (fun _ => (lower_c (at' (ints l) k) _ (by omega) (by omega))) rfl ?_
     refine RL.u (.leq .c (.t rfl)) rfl (RL.m rfl rfl (RL.v (.pos rfl rfl) (.move (.t rfl)) rfl ?_))
     refine RL.callS (.pos rfl rfl) Tryz.call190 (.cons (.g rfl (fun h => h)) .nil) (fun hW => by simp only [zb] at hW; exact (lower_c (at' (ints l) k) _ (by omega) (by omega))) rfl ?_
     refine RL.v (.pos rfl rfl) (.leq (.g rfl (fun h => h)) .c) rfl (RL.u (.and (.t rfl) (.g rfl (fun h => h))) rfl (RL.a rfl rfl ?_))
     refine RL.nil (CW.at [Y 1 (i64 16), Y 8 (.bool false), Y 9 (str l), Y 10 (.int .u64 1152921504606846976), Y 11 (.int .u64 65535), Y 12 (.bool false), Y 13 (.int .u64 n), Y 15 (.int .u8 (at' (ints l) k)), Y 99 v1, Y 100 (i64 (len (ints l))), Y 101 (i64 k), Y 121 (.bool ((decide (97 ≤ (lowV (at' (ints l) k)))) && (decide ((lowV (at' (ints l) k)) ≤ 122))))] rfl ?_)
     refine CW.cond rfl (fun hb13 => ?_) (fun hb13 => ?_)
     ·try simp only [zb] at hb13
      refine CW.region ?_
      refine RL.m rfl rfl ?_
      refine RL.callS .none Tryz.call190 (.cons (.t rfl) .nil) (fun _ => (lower_c (at' (ints l) k) _ (by omega) (by omega))) rfl ?_
      refine RL.u (.subK (r := (lowV (at' (ints l) k)) - 97) (.t rfl) .c (fun _ => by exact Eng.wrap_u8 (by omega))) rfl (RL.u (.addK (r := ((lowV (at' (ints l) k)) - 97) + 10) (.t rfl) .c (fun _ => by exact Eng.wrap_u8 (by omega))) rfl (RL.a rfl rfl ?_))
      refine RL.nil (CW.at [Y 1 (i64 16), Y 8 (.bool false), Y 9 (str l), Y 10 (.int .u64 1152921504606846976), Y 11 (.int .u64 65535), Y 12 (.bool false), Y 13 (.int .u64 n), Y 16 (.int .u8 (((lowV (at' (ints l) k)) - 97) + 10)), Y 99 v1, Y 100 (i64 (len (ints l))), Y 101 (i64 k)] rfl ?_)
      refine CW.seq ?_
      refine CW.sr ?_
      refine RL.m rfl rfl (RL.m rfl rfl (RL.u (.cvtK (r := 16) (.t rfl) Tryz.underlying3 Tryz.underlying5 (fun _ => by exact Eng.wrap_u8 (by omega))) rfl (RL.u (.geq (.t rfl) (.t rfl)) rfl ?_)))
      refine RL.nil (CW.id ?_)
      refine CW.cond rfl (fun hb14 => ?_) (fun hb14 => ?_)
      ·try simp only [zb] at hb14
       refine CW.sr ?_
       refine RL.u (.iface .c Tryz.underlying172 rfl) rfl (RL.u (.assign .c) rfl (RL.a rfl rfl ?_))
       refine RL.nil (CW.id ?_)
       refine CW.ret (hE.r2 rfl rfl rfl ?_)
       have hh : hexI (byteAt l k) < 0 := by rw [← hq]; have := (hlf.2.1 (by omega) (by omega) (by omega)).2 (by omega); omega
       have hz := hex_bad (s := l) (i := 0) (k := k) (j := 4) (by omega) (by omega) (by omega) (by omega) hh
       rw [sub_all l 4 (by omega)] at hz
       exact ⟨_, rfl, _, _, .inr ⟨_, _, rfl⟩, by rw [hz]; rfl, fun _ => rfl, fun h => (by rw [hz] at h; cases h), rfl, hS7.low⟩
      ·try simp only [zb] at hb14
       refine CW.skip (CW.id ?_)
       refine CW.seq ?_
       refine CW.sr ?_
       refine RL.m rfl rfl (RL.m rfl rfl (RL.u (.geq (.t rfl) (.t rfl)) rfl ?_))
       refine RL.nil (CW.id ?_)
       refine CW.cond rfl (fun hb15 => ?_) (fun hb15 => ?_)
       ·try simp only [zb] at hb15
        exfalso; omega
       ·try simp only [zb] at hb15
        refine CW.skip (CW.id ?_)
        refine CW.sr ?_
        refine RL.m rfl rfl (RL.m rfl rfl (RL.u (.cvtK (r := 16) (.t rfl) Tryz.underlying3 Tryz.underlying160 (fun _ => by exact Eng.wrap_u64 (by omega))) rfl (RL.u (.mulK (r := n * 16) (.t rfl) (.t rfl) (fun _ => by exact Eng.wrap_u64 (by omega))) rfl (RL.a rfl rfl ?_))))
        refine RL.nil (CW.id ?_)
        refine CW.sr ?_
        refine RL.m rfl rfl (RL.m rfl rfl (RL.u (.cvtK (r := ((lowV (at' (ints l) k)) - 97) + 10) (.t rfl) Tryz.underlying5 Tryz.underlying160 (fun _ => by exact Eng.wrap_u64 (by omega))) rfl (RL.u (.addK (r := (n * 16) + (((lowV (at' (ints l) k)) - 97) + 10)) (.t rfl) (.t rfl) (fun _ => by exact Eng.wrap_u64 (by omega))) rfl (RL.a rfl rfl ?_))))
        refine RL.nil (CW.id ?_)
        refine CW.seq ?_
        refine CW.sr ?_
        refine RL.m rfl rfl (RL.m rfl rfl (RL.u (.lss (.t rfl) (.t rfl)) rfl (RL.m rfl rfl (RL.v (.neg rfl rfl) (.move (.t rfl)) rfl (RL.v (.neg rfl rfl) (.move (.t rfl)) rfl ?_)))))
        refine RL.v (.neg rfl rfl) (.gtr (.g rfl (fun h => h)) (.g rfl (fun h => h))) rfl (RL.u (.or (.t rfl) (.g rfl (fun h => h))) rfl ?_)
        refine RL.nil (CW.id ?_)
        refine CW.cond rfl (fun hb16 => ?_) (fun hb16 => ?_)
        ·try simp only [zb] at hb16
         exfalso; omega
        ·try simp only [zb] at hb16
         refine CW.skip (CW.id ?_)
         refine CW.region ?_
         refine RL.m rfl rfl (RL.a rfl rfl ?_)
         refine RL.nil (CW.id ?_)
         refine CW.region ?_
         refine RL.u (.add (.t rfl) .c (fun _ => by omega)) rfl (RL.m rfl rfl ?_)
         refine RL.nil fun a hs => Exists.intro ((k + 1, (n * 16) + (((lowV (at' (ints l) k)) - 97) + 10))) ⟨hs.keep [1, 8, 9, 10, 11, 12, 13, 99, 100, 101], ?_, ?_⟩
         ·refine ⟨hS7, hsl6, ?_⟩
          have hx : hexI (byteAt l k) = lowV (at' (ints l) k) - 97 + 10 := by rw [← hq]; have := (hlf.2.1 (by omega) (by omega) (by omega)).1 (by omega); omega
          have hs := hex_step (s := l) (i := 0) (by omega) hk0 (by omega) hok (by omega)
          exact ⟨by omega, by omega, hs.1, by rw [hs.2, hx, ← hn]⟩
         ·show Int.toNat _ < Int.toNat _; omega
     ·try simp only [zb] at hb13
      refine CW.sr ?_
      refine RL.u (.iface .c Tryz.underlying172 rfl) rfl (RL.u (.assign .c) rfl (RL.a rfl rfl ?_))
      refine RL.nil (CW.id ?_)
      refine CW.ret (hE.r2 rfl rfl rfl ?_)
      have hh : hexI (byteAt l k) < 0 := by rw [← hq]; have := hlf.2.2 (by omega) (by omega); omega
      have hz := hex_bad (s := l) (i := 0) (k := k) (j := 4) (by omega) (by omega) (by omega) (by omega) hh
      rw [sub_all l 4 (by omega)] at hz
      exact ⟨_, rfl, _, _, .inr ⟨_, _, rfl⟩, by rw [hz]; rfl, fun _ => rfl, fun h => (by rw [hz] at h; cases h), rfl, hS7.low⟩
   ·try simp only [zb] at hb7
    refine CW.exit (CW.at [Y 9 (str l), Y 12 (.bool false), Y 13 (.int .u64 n)] rfl ?_)
    refine CW.seq ?_
    refine CW.sr ?_
    refine RL.m rfl rfl (RL.m rfl rfl (RL.v (.pos rfl rfl) (.move (.t rfl)) rfl ?_))
    refine RL.callS (v := (.bool false)) (.pos rfl rfl) Tryz.call191 (.cons (.g rfl (fun h => by simp_all)) .nil) (fun h => by cases h) rfl ?_
    refine RL.v (.pos rfl rfl) (.not (.g rfl (fun h => by simp_all))) rfl (RL.u (.and (.t rfl) (.g rfl (fun h => by simp_all))) rfl ?_)
    refine RL.nil (CW.at [Y 13 (.int .u64 n), Y 169 (.bool false)] rfl ?_)
    refine CW.cond rfl (fun h => by cases h) (fun _ => ?_)
    refine CW.skip (CW.id ?_)
    refine CW.sr ?_
    refine RL.m rfl rfl (RL.a rfl rfl (RL.u (.assign .c) rfl ?_))
    refine RL.nil (CW.id ?_)
    refine CW.ret (hE.r2 rfl rfl rfl ?_)
    have hk : k = 4 := by omega
    rw [hk, sub_all l 4 (by omega)] at hok hn
    exact ⟨_, rfl, _, _, .inl rfl, by rw [hok]; rfl, fun h => (by cases h), fun _ => hn, rfl, hS7.low⟩

theorem toErr_c (l : Str) (er : Value) (w : World) (hg : Gl w) (hl : len l = 4) (he : er = .iface 172 (i64 2)) : Calls Tryz.prog 127 [str [80, 97, 114, 115, 101, 85, 105, 110, 116], str l, i64 16, i64 16, er].toArray w fun e w' => ∃ v, e = .returned v ∧ ∃ n, v = .iface 175 (.pointer (some ⟨n, 0, none⟩)) ∧ Ext w w' := by
  subst he
  obtain ⟨ev, h1, h2⟩ := hg.err
  exact (Tryz.strconv_toError_syntax ⟨⟨[80, 97, 114, 115, 101, 85, 105, 110, 116]⟩⟩ ⟨⟨l⟩⟩ 16 16 ev w (by show l.length ≤ _; unfold len at hl; omega) h1 h2).mono fun e w' ⟨n, h, _, _, hb⟩ => ⟨_, h, n, rfl, hb⟩
/- strconv.ParseUint -/
set_option maxRecDepth 100000 in
theorem parse16_c (l : Str) (w : World) (hg : Gl w) (hl : len l = 4) :
  Calls Tryz.prog 151 [(str l), (i64 16), (i64 16)].toArray w fun e w' => ∃ v, e = .returned v ∧ ∃ x er, (er = .nilIface ∨ ∃ u p, er = .iface u p) ∧ isNilV er = hexOk l ∧ (hexOk l = true → x = hexVal l) ∧ v = .tuple #[.int .u64 x, er] ∧ Ext w w' := by
 refine CW.enter1 Tryz.func151 rfl Tryz.ntmps151 (Nat.le_of_ble_eq_true rfl) fun Q hE => ?_
 have hS : St w (fun _ _ => none) w (fun _ _ => none) [] := St.start ⟨fun _ _ _ h => by cases h⟩
 refine CW.weaken [0, 1, 2] (L' := [Y 0 (str l), Y 1 (i64 16), Y 2 (i64 16)]) ?_ rfl
 refine CW.sr ?_
 refine RL.u (.assign .c) rfl (RL.u (.assign .c) rfl ?_)
 refine RL.nil (CW.id ?_)
 refine CW.sr ?_
 refine RL.m rfl rfl (RL.m rfl rfl (RL.m rfl rfl ?_))
 refine RL.callP Tryz.call171 (.cons (.t rfl) (.cons (.t rfl) (.cons (.t rfl) .nil))) (pint_c l _ hl) rfl ?_
 rintro v3 w4 ⟨px1, er2, her2, her2n, her2i, her2v, rfl, hEer2⟩
 have hS5 := hS.ext hEer2
 replace hS5 : St w (fun _ _ => none) w4 (fun _ _ => none) [] := hS5
 refine RL.m rfl rfl (RL.u (.ex (.t rfl) rfl) rfl (RL.u (.ex (.t rfl) rfl) rfl (RL.a rfl rfl (RL.a rfl rfl ?_))))
 refine RL.nil (CW.at [Y 0 (str l), Y 1 (i64 16), Y 2 (i64 16), Y 8 (.int .u64 px1), Y 9 er2] rfl ?_)
 refine CW.seq ?_
 refine CW.sr ?_
 refine RL.m rfl rfl (RL.u (.neNil (.t rfl) her2 (by kernel_rfl)) rfl ?_)
 refine RL.nil (CW.id ?_)
 refine CW.cond rfl (fun hb1 => ?_) (fun hb1 => ?_)
 ·try simp only [zb] at hb1
  refine CW.sr ?_
  refine RL.m rfl rfl (RL.m rfl rfl (RL.m rfl rfl (RL.m rfl rfl (RL.m rfl rfl ?_))))
  refine RL.callP Tryz.call127 (.cons .c (.cons (.t rfl) (.cons (.t rfl) (.cons (.t rfl) (.cons (.t rfl) .nil))))) (toErr_c l er2 _ (hg.low hS5.low) hl (her2i hb1)) rfl ?_
  rintro v7 w8 ⟨nn6, rfl, hEnn6⟩
  have hS9 := hS5.ext hEnn6
  replace hS9 : St w (fun _ _ => none) w8 (fun _ _ => none) [] := hS9
  refine RL.a rfl rfl (RL.a rfl rfl ?_)
  refine RL.nil (CW.at [Y 6 (.int .u64 px1), Y 7 (.iface 175 (.pointer (some ⟨nn6, 0, none⟩)))] rfl ?_)
  refine CW.ret (hE.r2 rfl rfl rfl ?_)
  rw [hb1] at her2n
  exact ⟨_, rfl, _, _, .inr ⟨_, _, rfl⟩, her2n, her2v, rfl, hS9.low⟩
 ·try simp only [zb] at hb1
  refine CW.skip (CW.id ?_)
  refine CW.sr ?_
  refine RL.m rfl rfl (RL.a rfl rfl (RL.u (.assign .c) rfl ?_))
  refine RL.nil (CW.id ?_)
  refine CW.ret (hE.r2 rfl rfl rfl ?_)
  rw [hb1] at her2n
  exact ⟨_, rfl, _, _, .inl rfl, her2n, her2v, rfl, hS5.low⟩

theorem any_hex {l : Str} (h : l.any (fun b => [43, 45, 95].contains b) = true) : hexOk l = false := by
  rw [List.any_eq_true] at h
  obtain ⟨b, hb, hc⟩ := h
  unfold hexOk
  rw [List.all_eq_false]
  refine ⟨b, hb, ?_⟩
  simp only [List.contains_cons, List.contains_nil, Bool.or_false, Bool.or_eq_true, beq_iff_eq] at hc
  rcases hc with rfl | rfl | rfl <;> decide
/- loupe/quote.number -/
set_option maxRecDepth 100000 in
theorem number_c (s : Str) (w : World) (hg : Gl w) (hb : len s ≤ 1099511627776) :
  Calls Tryz.prog 125 [(str s)].toArray w fun e w' => e = .returned (i64 (numP s)) ∧ Ext w w' := by
 refine CW.enter1 Tryz.func125 rfl Tryz.ntmps125 (Nat.le_of_ble_eq_true rfl) fun Q hE => ?_
 have hS : St w (fun _ _ => none) w (fun _ _ => none) [] := St.start ⟨fun _ _ _ h => by cases h⟩
 refine CW.weaken [0] (L' := [Y 0 (str s)]) ?_ rfl
 refine CW.sr ?_
 refine RL.u (.assign .c) rfl ?_
 refine RL.nil (CW.id ?_)
 refine CW.seq ?_
 refine CW.sr ?_
 refine RL.m rfl rfl (RL.u (.lenS (.t rfl) Tryz.underlying9) rfl (RL.u (.lss (.t rfl) .c) rfl (RL.m rfl rfl (RL.v (.neg rfl rfl) (.move (.t rfl)) rfl ?_))))
 refine RL.callS (.neg rfl rfl) Tryz.call68 (.cons (.g rfl (fun h => h)) (.cons .c .nil)) (fun hW => by simp only [zb] at hW; exact (hasPrefix_c s [92, 117] _)) rfl ?_
 refine RL.v (.neg rfl rfl) (.not (.g rfl (fun h => h))) rfl (RL.u (.or (.t rfl) (.g rfl (fun h => h))) rfl (RL.m rfl rfl (RL.v (.neg rfl rfl) (.move (.t rfl)) rfl (RL.v (.neg rfl rfl) (.slS (.g rfl (fun h => h)) .c .c Tryz.underlying9 (fun hW => by simp only [zb] at hW; omega)) rfl ?_))))
 refine RL.callE hS (.neg rfl rfl) Tryz.call150 (.cons (.g rfl (fun h => h)) (.cons .c .nil)) (fun hW => by simp only [zb] at hW; exact (containsAny_c (Eng.sub s 2 6) _ (by rw [sub_len (by omega) (by omega) (by omega)]; rfl))) rfl (fun w1 hS2 => ?_)
 refine RL.u (.or (.t rfl) (.g rfl (fun h => h))) rfl ?_
 refine RL.nil (CW.at [Y 0 (str s), Y 17 (.bool (((decide ((len s) < 6)) || (!(Lib.hasPrefix s [92, 117]))) || ((Eng.sub s 2 6).any (fun b => ([43, 45, 95] : Str).contains b))))] rfl ?_)
 refine CW.cond rfl (fun hb1 => ?_) (fun hb1 => ?_)
 ·try simp only [zb] at hb1
  refine CW.sr ?_
  refine RL.u (.assign .c) rfl ?_
  refine RL.nil (CW.id ?_)
  refine CW.ret (hE.r1 rfl rfl ?_)
  have hq : numP s = -1 := by
   unfold numP
   split
   ·rfl
   ·rename_i n1; split
    ·rfl
    ·rename_i n2; split
     ·rename_i n3; exfalso; rcases hb1 with (h | h) | h
      ·exact n1 h
      ·exact n2 h
      ·rw [any_hex h] at n3; cases n3
     ·rfl
  rw [hq]; exact ⟨rfl, hS2.low⟩
 ·try simp only [zb] at hb1
  refine CW.skip (CW.id ?_)
  refine CW.sr ?_
  refine RL.m rfl rfl (RL.u (.slS (.t rfl) .c .c Tryz.underlying9 (fun _ => by omega)) rfl ?_)
  refine RL.callP Tryz.call151 (.cons (.t rfl) (.cons .c (.cons .c .nil))) (parse16_c (Eng.sub s 2 6) _ (hg.low hS2.low) (by rw [sub_len (by omega) (by omega) (by omega)]; rfl)) rfl ?_
  rintro v5 w6 ⟨px3, er4, her4, her4n, her4v, rfl, hEer4⟩
  have hS7 := hS2.ext hEer4
  replace hS7 : St w (fun _ _ => none) w6 (fun _ _ => none) [] := hS7
  refine RL.m rfl rfl (RL.u (.ex (.t rfl) rfl) rfl (RL.u (.ex (.t rfl) rfl) rfl (RL.a rfl rfl (RL.a rfl rfl ?_))))
  refine RL.nil (CW.at [Y 3 (.int .u64 px3), Y 4 er4] rfl ?_)
  refine CW.seq ?_
  refine CW.sr ?_
  refine RL.m rfl rfl (RL.u (.neNil (.t rfl) her4 (by kernel_rfl)) rfl ?_)
  refine RL.nil (CW.id ?_)
  refine CW.cond rfl (fun hb2 => ?_) (fun hb2 => ?_)
  ·try simp only [zb] at hb2
   refine CW.sr ?_
   refine RL.u (.assign .c) rfl ?_
   refine RL.nil (CW.id ?_)
   refine CW.ret (hE.r1 rfl rfl ?_)
   have hq : numP s = -1 := by
    unfold numP
    (repeat' split) <;> first | rfl | (exfalso; rename_i n3; rw [← her4n, hb2] at n3; cases n3)
   rw [hq]; exact ⟨rfl, hS7.low⟩
  ·try simp only [zb] at hb2
   have hk : hexOk (Eng.sub s 2 6) = true := by rw [← her4n]; simpa using hb2
   have hx := her4v hk
   have hxb := hexVal_lt (sub_len (s := s) (i := 2) (j := 6) (by omega) (by omega) (by omega)) hk
   refine CW.skip (CW.id ?_)
   refine CW.sr ?_
   refine RL.m rfl rfl (RL.u (.cvtK (r := px3) (.t rfl) Tryz.underlying160 Tryz.underlying3 (fun _ => by exact Eng.wrap_i64 (by omega))) rfl (RL.a rfl rfl ?_))
   refine RL.nil (CW.id ?_)
   refine CW.ret (hE.r1 rfl rfl ?_)
   have hq : numP s = px3 := by
    unfold numP
    rw [if_neg (by omega), if_neg (by rw [hb1.1.2]; simp), if_pos hk, hx]
   rw [hq]; exact ⟨rfl, hS7.low⟩

/- loupe/quote.escape -/
set_option maxRecDepth 100000 in
theorem escape_c (s : Str) (w : World) (hg : Gl w) (hb : len s ≤ 1099511627776) :
  Calls Tryz.prog 95 [(str s)].toArray w fun e w' => e = .returned (.tuple #[(.int .i32 ((escP s).1)), (i64 ((escP s).2))]) ∧ Ext w w' := by
 refine CW.enter1 Tryz.func95 rfl Tryz.ntmps95 (Nat.le_of_ble_eq_true rfl) fun Q hE => ?_
 have h1 := numP_bd s
 have h2 := numP_bd (from' s 6)
 have h3 := byteAt_bd s 1
 have hS : St w (fun _ _ => none) w (fun _ _ => none) [] := St.start ⟨fun _ _ _ h => by cases h⟩
 refine CW.weaken [0] (L' := [Y 0 (str s)]) ?_ rfl
 refine CW.sr ?_
 refine RL.u (.assign .c) rfl (RL.u (.assign .c) rfl ?_)
 refine RL.nil (CW.id ?_)
 refine CW.seq ?_
 refine CW.sr ?_
 refine RL.m rfl rfl (RL.u (.lenS (.t rfl) Tryz.underlying9) rfl (RL.u (.lss (.t rfl) .c) rfl ?_))
 refine RL.nil (CW.id ?_)
 refine CW.cond rfl (fun hb1 => ?_) (fun hb1 => ?_)
 ·try simp only [zb, and_true, true_and, false_or, or_false, not_true_eq_false, not_false_eq_true] at hb1
  refine CW.sr ?_
  refine RL.u (.assign .c) rfl (RL.u (.assign .c) rfl ?_)
  refine RL.nil (CW.id ?_)
  refine CW.ret (hE.r2 rfl rfl rfl ?_)
  have hq : escP s = (0, 0) := by
   unfold escP
   rw [if_pos (by omega)]
  rw [hq]; exact ⟨rfl, hS.low⟩
 ·try simp only [zb, and_true, true_and, false_or, or_false, not_true_eq_false, not_false_eq_true] at hb1
  refine CW.skip (CW.id ?_)
  refine CW.seq ?_
  refine CW.seq ?_
  refine CW.regionA hS tryz_mixed (fun w1 hS2 => ?_)
  refine RA.two (i := 0) (j := 1) (by decide +kernel) ?_ ?_
  ·skip
   refine RL.callP Tryz.call118 .nil (short_c (Rs := []) hS2) rfl ?_
   rintro v4 w5 ⟨mb3, rfl, hS7⟩
   replace hS7 : St w (fun _ _ => none) w5 (fun _ _ => none) [.raw mb3 (mobj .u8 shortKV 8)] := hS7
   refine RL.nil (RA.next ?_)
   refine RA.one (i := 1) (by decide +kernel) ?_
   skip
   refine RL.m rfl rfl ?_
   refine RL.nil (RA.next ?_)
   refine RA.one (i := 2) (by decide +kernel) ?_
   skip
   refine RL.u (.idxS (.t rfl) .c Tryz.underlying9 (fun _ => by omega)) rfl ?_
   refine RL.nil (RA.next ?_)
   refine RA.one (i := 3) (by decide +kernel) ?_
   skip
   refine RL.u (.lookupOk (k := .u8) (v := (.int .i32 (shV (byteAt s 1)))) (q := shIs (byteAt s 1)) hS7 extEq (i := 0) rfl (.t rfl) (.t rfl) Tryz.underlying143 Tryz.underlying5 Tryz.zeroValue21 (short_get _).1 (short_get _).2) rfl ?_
   refine RL.nil (RA.next ?_)
   refine RA.one (i := 4) (by decide +kernel) ?_
   skip
   refine RL.m rfl rfl ?_
   refine RL.nil (RA.next ?_)
   refine RA.two (i := 5) (j := 6) (by decide +kernel) ?_ ?_
   ·skip
    refine RL.u (.ex (.t rfl) rfl) rfl ?_
    refine RL.nil (RA.next ?_)
    refine RA.two (i := 6) (j := 7) (by decide +kernel) ?_ ?_
    ·skip
     refine RL.u (.ex (.t rfl) rfl) rfl ?_
     refine RL.nil (RA.next ?_)
     refine RA.one (i := 7) (by decide +kernel) ?_
     skip
     refine RL.a rfl rfl ?_
     refine RL.nil (RA.next ?_)
     refine RA.one (i := 8) (by decide +kernel) ?_
     skip
     refine RL.a rfl rfl ?_
     refine RL.nil (RA.next ?_)
     refine RA.nil (by decide +kernel) ?_
     refine (CW.at [Y 0 (str s), Y 4 (.int .i32 (shV (byteAt s 1))), Y 5 (.bool (shIs (byteAt s 1)))] rfl ?_)
     refine CW.sr ?_
     refine RL.m rfl rfl ?_
     refine RL.nil (CW.id ?_)
     refine CW.cond rfl (fun hb2 => ?_) (fun hb2 => ?_)
     ·try simp only [zb, hb1, and_true, true_and, false_or, or_false, not_true_eq_false, not_false_eq_true] at hb2
      refine CW.sr ?_
      refine RL.m rfl rfl (RL.a rfl rfl (RL.u (.assign .c) rfl ?_))
      refine RL.nil (CW.id ?_)
      refine CW.ret (hE.r2 rfl rfl rfl ?_)
      have hq : escP s = (shV (byteAt s 1), 2) := by
       unfold escP
       rw [if_neg (by omega), if_pos hb2]
      rw [hq]; exact ⟨rfl, hS7.low⟩
     ·try simp only [zb, hb1, and_true, true_and, false_or, or_false, not_true_eq_false, not_false_eq_true] at hb2
      refine CW.skip (CW.id ?_)
      refine CW.sr ?_
      refine RL.m rfl rfl ?_
      refine RL.callE hS7 .none Tryz.call125 (.cons (.t rfl) .nil) (fun _ => (number_c s _ (hg.low hS7.low) (by first | omega | exact Int.le_trans (from_bd _ _).2 (by omega)))) rfl (fun w9 hS10 => ?_)
      refine RL.a rfl rfl ?_
      refine RL.nil (CW.at [Y 0 (str s), Y 6 (i64 (numP s))] rfl ?_)
      refine CW.seq ?_
      refine CW.block ?_
      refine CW.sr ?_
      refine RL.m rfl rfl (RL.u (.lss (.t rfl) .c) rfl (RL.m rfl rfl (RL.v (.neg rfl rfl) (.move (.t rfl)) rfl (RL.v (.neg rfl rfl) (.geq (.g rfl (fun h => h)) .c) rfl (RL.v (.neg rfl rfl) (.move (.g rfl (fun h => h))) rfl ?_)))))
      refine RL.v (.posG rfl rfl) (.move (.t rfl)) rfl (RL.v (.posG rfl rfl) (.lss (.g rfl (fun h => h)) .c) rfl (RL.v (.neg rfl rfl) (.and (.g rfl (fun h => h)) (.g rfl (fun h => h))) rfl (RL.u (.or (.t rfl) (.g rfl (fun h => h))) rfl (RL.a rfl rfl ?_))))
      refine RL.nil (CW.id ?_)
      refine CW.cond rfl (fun hb3 => ?_) (fun hb3 => ?_)
      ·try simp only [zb, hb1, hb2, and_true, true_and, false_or, or_false, not_true_eq_false, not_false_eq_true] at hb3
       refine CW.sr ?_
       refine RL.u (.assign .c) rfl (RL.u (.assign .c) rfl ?_)
       refine RL.nil (CW.id ?_)
       refine CW.ret (hE.r2 rfl rfl rfl ?_)
       have hq : escP s = (0, 0) := by
        unfold escP
        rw [if_neg (by omega), if_neg (by rw [hb2]; simp), if_pos (by omega)]
       rw [hq]; exact ⟨rfl, hS10.low⟩
      ·try simp only [zb, hb1, hb2, and_true, true_and, false_or, or_false, not_true_eq_false, not_false_eq_true] at hb3
       refine CW.sr ?_
       refine RL.m rfl rfl (RL.u (.lss (.t rfl) .c) rfl (RL.m rfl rfl (RL.v (.neg rfl rfl) (.move (.t rfl)) rfl (RL.v (.neg rfl rfl) (.geq (.g rfl (fun h => h)) .c) rfl (RL.u (.or (.t rfl) (.g rfl (fun h => h))) rfl ?_)))))
       refine RL.a rfl rfl ?_
       refine RL.nil (CW.id ?_)
       refine CW.cond rfl (fun hb4 => ?_) (fun hb4 => ?_)
       ·try simp only [zb, hb1, hb2, hb3, and_true, true_and, false_or, or_false, not_true_eq_false, not_false_eq_true] at hb4
        refine CW.sr ?_
        refine RL.m rfl rfl (RL.u (.cvtK (r := numP s) (.t rfl) Tryz.underlying3 Tryz.underlying21 (fun _ => by exact Eng.wrap_i32 (by omega))) rfl (RL.a rfl rfl (RL.u (.assign .c) rfl ?_)))
        refine RL.nil (CW.id ?_)
        refine CW.ret (hE.r2 rfl rfl rfl ?_)
        have hq : escP s = (numP s, 6) := by
         unfold escP
         rw [if_neg (by omega), if_neg (by rw [hb2]; simp), if_neg (by omega), if_pos (by omega)]
        rw [hq]; exact ⟨rfl, hS10.low⟩
       ·try simp only [zb, hb1, hb2, hb3, and_true, true_and, false_or, or_false, not_true_eq_false, not_false_eq_true] at hb4
        refine CW.skip (CW.id ?_)
        refine CW.sr ?_
        refine RL.m rfl rfl (RL.u (.slSl (.t rfl) .c Tryz.underlying9 (fun _ => by omega)) rfl ?_)
        refine RL.callE hS10 .none Tryz.call125 (.cons (.t rfl) .nil) (fun _ => (number_c (Eng.from' s 6) _ (hg.low hS10.low) (by first | omega | exact Int.le_trans (from_bd _ _).2 (by omega)))) rfl (fun w11 hS12 => ?_)
        refine RL.a rfl rfl ?_
        refine RL.nil (CW.at [Y 6 (i64 (numP s)), Y 7 (i64 (numP (Eng.from' s 6)))] rfl ?_)
        refine CW.seq ?_
        refine CW.sr ?_
        refine RL.m rfl rfl (RL.u (.lss (.t rfl) .c) rfl (RL.m rfl rfl (RL.v (.neg rfl rfl) (.move (.t rfl)) rfl (RL.v (.neg rfl rfl) (.geq (.g rfl (fun h => h)) .c) rfl (RL.u (.or (.t rfl) (.g rfl (fun h => h))) rfl ?_)))))
        refine RL.nil (CW.id ?_)
        refine CW.cond rfl (fun hb5 => ?_) (fun hb5 => ?_)
        ·try simp only [zb, hb1, hb2, hb3, hb4, and_true, true_and, false_or, or_false, not_true_eq_false, not_false_eq_true] at hb5
         refine CW.sr ?_
         refine RL.u (.assign .c) rfl (RL.u (.assign .c) rfl ?_)
         refine RL.nil (CW.id ?_)
         refine CW.ret (hE.r2 rfl rfl rfl ?_)
         have hq : escP s = (0, 0) := by
          unfold escP
          rw [if_neg (by omega), if_neg (by rw [hb2]; simp), if_neg (by omega), if_neg (by omega), if_pos (by omega)]
         rw [hq]; exact ⟨rfl, hS12.low⟩
        ·try simp only [zb, hb1, hb2, hb3, hb4, and_true, true_and, false_or, or_false, not_true_eq_false, not_false_eq_true] at hb5
         refine CW.skip (CW.id ?_)
         refine CW.sr ?_
         refine RL.m rfl rfl (RL.u (.sub (.t rfl) .c (fun _ => by omega)) rfl (RL.u (.bin (v := .int .i64 (((numP s) - 55296) * 1024)) (.t rfl) .c (fun hW w _ => ((fun _ => by simp [go_sem, binOp]; exact Eng.wrap_i64 (by omega))) hW)) rfl (RL.u (.add .c (.t rfl) (fun _ => by omega)) rfl (RL.m rfl rfl (RL.u (.add (.t rfl) (.t rfl) (fun _ => by omega)) rfl ?_)))))
         refine RL.u (.sub (.t rfl) .c (fun _ => by omega)) rfl (RL.u (.cvtK (r := ((65536 + (((numP s) - 55296) * 1024)) + (numP (Eng.from' s 6))) - 56320) (.t rfl) Tryz.underlying3 Tryz.underlying21 (fun _ => by exact Eng.wrap_i32 (by omega))) rfl (RL.a rfl rfl (RL.u (.assign .c) rfl ?_)))
         refine RL.nil (CW.id ?_)
         refine CW.ret (hE.r2 rfl rfl rfl ?_)
         have hq : escP s = (((65536 + (((numP s) - 55296) * 1024)) + (numP (Eng.from' s 6))) - 56320, 12) := by
          unfold escP
          rw [if_neg (by omega), if_neg (by rw [hb2]; simp), if_neg (by omega), if_neg (by omega), if_neg (by omega)]
         rw [hq]; exact ⟨rfl, hS12.low⟩
    ·skip
     refine RL.a rfl rfl ?_
     refine RL.nil (RA.next ?_)
     refine RA.one (i := 6) (by decide +kernel) ?_
     skip
     refine RL.u (.ex (.t rfl) rfl) rfl ?_
     refine RL.nil (RA.next ?_)
     refine RA.one (i := 8) (by decide +kernel) ?_
     skip
     refine RL.a rfl rfl ?_
     refine RL.nil (RA.next ?_)
     refine RA.nil (by decide +kernel) ?_
     refine (CW.at [Y 0 (str s), Y 4 (.int .i32 (shV (byteAt s 1))), Y 5 (.bool (shIs (byteAt s 1)))] rfl ?_)
     refine CW.sr ?_
     refine RL.m rfl rfl ?_
     refine RL.nil (CW.id ?_)
     refine CW.cond rfl (fun hb6 => ?_) (fun hb6 => ?_)
     ·try simp only [zb, hb1, and_true, true_and, false_or, or_false, not_true_eq_false, not_false_eq_true] at hb6
      refine CW.sr ?_
      refine RL.m rfl rfl (RL.a rfl rfl (RL.u (.assign .c) rfl ?_))
      refine RL.nil (CW.id ?_)
      refine CW.ret (hE.r2 rfl rfl rfl ?_)
      have hq : escP s = (shV (byteAt s 1), 2) := by
       unfold escP
       rw [if_neg (by omega), if_pos hb6]
      rw [hq]; exact ⟨rfl, hS7.low⟩
     ·try simp only [zb, hb1, and_true, true_and, false_or, or_false, not_true_eq_false, not_false_eq_true] at hb6
      refine CW.skip (CW.id ?_)
      refine CW.sr ?_
      refine RL.m rfl rfl ?_
      refine RL.callE hS7 .none Tryz.call125 (.cons (.t rfl) .nil) (fun _ => (number_c s _ (hg.low hS7.low) (by first | omega | exact Int.le_trans (from_bd _ _).2 (by omega)))) rfl (fun w13 hS14 => ?_)
      refine RL.a rfl rfl ?_
      refine RL.nil (CW.at [Y 0 (str s), Y 6 (i64 (numP s))] rfl ?_)
      refine CW.seq ?_
      refine CW.block ?_
      refine CW.sr ?_
      refine RL.m rfl rfl (RL.u (.lss (.t rfl) .c) rfl (RL.m rfl rfl (RL.v (.neg rfl rfl) (.move (.t rfl)) rfl (RL.v (.neg rfl rfl) (.geq (.g rfl (fun h => h)) .c) rfl (RL.v (.neg rfl rfl) (.move (.g rfl (fun h => h))) rfl ?_)))))
      refine RL.v (.posG rfl rfl) (.move (.t rfl)) rfl (RL.v (.posG rfl rfl) (.lss (.g rfl (fun h => h)) .c) rfl (RL.v (.neg rfl rfl) (.and (.g rfl (fun h => h)) (.g rfl (fun h => h))) rfl (RL.u (.or (.t rfl) (.g rfl (fun h => h))) rfl (RL.a rfl rfl ?_))))
      refine RL.nil (CW.id ?_)
      refine CW.cond rfl (fun hb7 => ?_) (fun hb7 => ?_)
      ·try simp only [zb, hb1, hb6, and_true, true_and, false_or, or_false, not_true_eq_false, not_false_eq_true] at hb7
       refine CW.sr ?_
       refine RL.u (.assign .c) rfl (RL.u (.assign .c) rfl ?_)
       refine RL.nil (CW.id ?_)
       refine CW.ret (hE.r2 rfl rfl rfl ?_)
       have hq : escP s = (0, 0) := by
        unfold escP
        rw [if_neg (by omega), if_neg (by rw [hb6]; simp), if_pos (by omega)]
       rw [hq]; exact ⟨rfl, hS14.low⟩
      ·try simp only [zb, hb1, hb6, and_true, true_and, false_or, or_false, not_true_eq_false, not_false_eq_true] at hb7
       refine CW.sr ?_
       refine RL.m rfl rfl (RL.u (.lss (.t rfl) .c) rfl (RL.m rfl rfl (RL.v (.neg rfl rfl) (.move (.t rfl)) rfl (RL.v (.neg rfl rfl) (.geq (.g rfl (fun h => h)) .c) rfl (RL.u (.or (.t rfl) (.g rfl (fun h => h))) rfl ?_)))))
       refine RL.a rfl rfl ?_
       refine RL.nil (CW.id ?_)
       refine CW.cond rfl (fun hb8 => ?_) (fun hb8 => ?_)
       ·try simp only [zb, hb1, hb6, hb7, and_true, true_and, false_or, or_false, not_true_eq_false, not_false_eq_true] at hb8
        refine CW.sr ?_
        refine RL.m rfl rfl (RL.u (.cvtK (r := numP s) (.t rfl) Tryz.underlying3 Tryz.underlying21 (fun _ => by exact Eng.wrap_i32 (by omega))) rfl (RL.a rfl rfl (RL.u (.assign .c) rfl ?_)))
        refine RL.nil (CW.id ?_)
        refine CW.ret (hE.r2 rfl rfl rfl ?_)
        have hq : escP s = (numP s, 6) := by
         unfold escP
         rw [if_neg (by omega), if_neg (by rw [hb6]; simp), if_neg (by omega), if_pos (by omega)]
        rw [hq]; exact ⟨rfl, hS14.low⟩
       ·try simp only [zb, hb1, hb6, hb7, and_true, true_and, false_or, or_false, not_true_eq_false, not_false_eq_true] at hb8
        refine CW.skip (CW.id ?_)
        refine CW.sr ?_
        refine RL.m rfl rfl (RL.u (.slSl (.t rfl) .c Tryz.underlying9 (fun _ => by omega)) rfl ?_)
        refine RL.callE hS14 .none Tryz.call125 (.cons (.t rfl) .nil) (fun _ => (number_c (Eng.from' s 6) _ (hg.low hS14.low) (by first | omega | exact Int.le_trans (from_bd _ _).2 (by omega)))) rfl (fun w15 hS16 => ?_)
        refine RL.a rfl rfl ?_
        refine RL.nil (CW.at [Y 6 (i64 (numP s)), Y 7 (i64 (numP (Eng.from' s 6)))] rfl ?_)
        refine CW.seq ?_
        refine CW.sr ?_
        refine RL.m rfl rfl (RL.u (.lss (.t rfl) .c) rfl (RL.m rfl rfl (RL.v (.neg rfl rfl) (.move (.t rfl)) rfl (RL.v (.neg rfl rfl) (.geq (.g rfl (fun h => h)) .c) rfl (RL.u (.or (.t rfl) (.g rfl (fun h => h))) rfl ?_)))))
        refine RL.nil (CW.id ?_)
        refine CW.cond rfl (fun hb9 => ?_) (fun hb9 => ?_)
        ·try simp only [zb, hb1, hb6, hb7, hb8, and_true, true_and, false_or, or_false, not_true_eq_false, not_false_eq_true] at hb9
         refine CW.sr ?_
         refine RL.u (.assign .c) rfl (RL.u (.assign .c) rfl ?_)
         refine RL.nil (CW.id ?_)
         refine CW.ret (hE.r2 rfl rfl rfl ?_)
         have hq : escP s = (0, 0) := by
          unfold escP
          rw [if_neg (by omega), if_neg (by rw [hb6]; simp), if_neg (by omega), if_neg (by omega), if_pos (by omega)]
         rw [hq]; exact ⟨rfl, hS16.low⟩
        ·try simp only [zb, hb1, hb6, hb7, hb8, and_true, true_and, false_or, or_false, not_true_eq_false, not_false_eq_true] at hb9
         refine CW.skip (CW.id ?_)
         refine CW.sr ?_
         refine RL.m rfl rfl (RL.u (.sub (.t rfl) .c (fun _ => by omega)) rfl (RL.u (.bin (v := .int .i64 (((numP s) - 55296) * 1024)) (.t rfl) .c (fun hW w _ => ((fun _ => by simp [go_sem, binOp]; exact Eng.wrap_i64 (by omega))) hW)) rfl (RL.u (.add .c (.t rfl) (fun _ => by omega)) rfl (RL.m rfl rfl (RL.u (.add (.t rfl) (.t rfl) (fun _ => by omega)) rfl ?_)))))
         refine RL.u (.sub (.t rfl) .c (fun _ => by omega)) rfl (RL.u (.cvtK (r := ((65536 + (((numP s) - 55296) * 1024)) + (numP (Eng.from' s 6))) - 56320) (.t rfl) Tryz.underlying3 Tryz.underlying21 (fun _ => by exact Eng.wrap_i32 (by omega))) rfl (RL.a rfl rfl (RL.u (.assign .c) rfl ?_)))
         refine RL.nil (CW.id ?_)
         refine CW.ret (hE.r2 rfl rfl rfl ?_)
         have hq : escP s = (((65536 + (((numP s) - 55296) * 1024)) + (numP (Eng.from' s 6))) - 56320, 12) := by
          unfold escP
          rw [if_neg (by omega), if_neg (by rw [hb6]; simp), if_neg (by omega), if_neg (by omega), if_neg (by omega)]
         rw [hq]; exact ⟨rfl, hS16.low⟩
   ·skip
    refine RL.u (.ex (.t rfl) rfl) rfl ?_
    refine RL.nil (RA.next ?_)
    refine RA.one (i := 5) (by decide +kernel) ?_
    skip
    refine RL.u (.ex (.t rfl) rfl) rfl ?_
    refine RL.nil (RA.next ?_)
    refine RA.one (i := 7) (by decide +kernel) ?_
    skip
    refine RL.a rfl rfl ?_
    refine RL.nil (RA.next ?_)
    refine RA.one (i := 8) (by decide +kernel) ?_
    skip
    refine RL.a rfl rfl ?_
    refine RL.nil (RA.next ?_)
    refine RA.nil (by decide +kernel) ?_
    refine (CW.at [Y 0 (str s), Y 4 (.int .i32 (shV (byteAt s 1))), Y 5 (.bool (shIs (byteAt s 1)))] rfl ?_)
    refine CW.sr ?_
    refine RL.m rfl rfl ?_
    refine RL.nil (CW.id ?_)
    refine CW.cond rfl (fun hb10 => ?_) (fun hb10 => ?_)
    ·try simp only [zb, hb1, and_true, true_and, false_or, or_false, not_true_eq_false, not_false_eq_true] at hb10
     refine CW.sr ?_
     refine RL.m rfl rfl (RL.a rfl rfl (RL.u (.assign .c) rfl ?_))
     refine RL.nil (CW.id ?_)
     refine CW.ret (hE.r2 rfl rfl rfl ?_)
     have hq : escP s = (shV (byteAt s 1), 2) := by
      unfold escP
      rw [if_neg (by omega), if_pos hb10]
     rw [hq]; exact ⟨rfl, hS7.low⟩
    ·try simp only [zb, hb1, and_true, true_and, false_or, or_false, not_true_eq_false, not_false_eq_true] at hb10
     refine CW.skip (CW.id ?_)
     refine CW.sr ?_
     refine RL.m rfl rfl ?_
     refine RL.callE hS7 .none Tryz.call125 (.cons (.t rfl) .nil) (fun _ => (number_c s _ (hg.low hS7.low) (by first | omega | exact Int.le_trans (from_bd _ _).2 (by omega)))) rfl (fun w17 hS18 => ?_)
     refine RL.a rfl rfl ?_
     refine RL.nil (CW.at [Y 0 (str s), Y 6 (i64 (numP s))] rfl ?_)
     refine CW.seq ?_
     refine CW.block ?_
     refine CW.sr ?_
     refine RL.m rfl rfl (RL.u (.lss (.t rfl) .c) rfl (RL.m rfl rfl (RL.v (.neg rfl rfl) (.move (.t rfl)) rfl (RL.v (.neg rfl rfl) (.geq (.g rfl (fun h => h)) .c) rfl (RL.v (.neg rfl rfl) (.move (.g rfl (fun h => h))) rfl ?_)))))
     refine RL.v (.posG rfl rfl) (.move (.t rfl)) rfl (RL.v (.posG rfl rfl) (.lss (.g rfl (fun h => h)) .c) rfl (RL.v (.neg rfl rfl) (.and (.g rfl (fun h => h)) (.g rfl (fun h => h))) rfl (RL.u (.or (.t rfl) (.g rfl (fun h => h))) rfl (RL.a rfl rfl ?_))))
     refine RL.nil (CW.id ?_)
     refine CW.cond rfl (fun hb11 => ?_) (fun hb11 => ?_)
     ·try simp only [zb, hb1, hb10, and_true, true_and, false_or, or_false, not_true_eq_false, not_false_eq_true] at hb11
      refine CW.sr ?_
      refine RL.u (.assign .c) rfl (RL.u (.assign .c) rfl ?_)
      refine RL.nil (CW.id ?_)
      refine CW.ret (hE.r2 rfl rfl rfl ?_)
      have hq : escP s = (0, 0) := by
       unfold escP
       rw [if_neg (by omega), if_neg (by rw [hb10]; simp), if_pos (by omega)]
      rw [hq]; exact ⟨rfl, hS18.low⟩
     ·try simp only [zb, hb1, hb10, and_true, true_and, false_or, or_false, not_true_eq_false, not_false_eq_true] at hb11
      refine CW.sr ?_
      refine RL.m rfl rfl (RL.u (.lss (.t rfl) .c) rfl (RL.m rfl rfl (RL.v (.neg rfl rfl) (.move (.t rfl)) rfl (RL.v (.neg rfl rfl) (.geq (.g rfl (fun h => h)) .c) rfl (RL.u (.or (.t rfl) (.g rfl (fun h => h))) rfl ?_)))))
      refine RL.a rfl rfl ?_
      refine RL.nil (CW.id ?_)
      refine CW.cond rfl (fun hb12 => ?_) (fun hb12 => ?_)
      ·try simp only [zb, hb1, hb10, hb11, and_true, true_and, false_or, or_false, not_true_eq_false, not_false_eq_true] at hb12
       refine CW.sr ?_
       refine RL.m rfl rfl (RL.u (.cvtK (r := numP s) (.t rfl) Tryz.underlying3 Tryz.underlying21 (fun _ => by exact Eng.wrap_i32 (by omega))) rfl (RL.a rfl rfl (RL.u (.assign .c) rfl ?_)))
       refine RL.nil (CW.id ?_)
       refine CW.ret (hE.r2 rfl rfl rfl ?_)
       have hq : escP s = (numP s, 6) := by
        unfold escP
        rw [if_neg (by omega), if_neg (by rw [hb10]; simp), if_neg (by omega), if_pos (by omega)]
       rw [hq]; exact ⟨rfl, hS18.low⟩
      ·try simp only [zb, hb1, hb10, hb11, and_true, true_and, false_or, or_false, not_true_eq_false, not_false_eq_true] at hb12
       refine CW.skip (CW.id ?_)
       refine CW.sr ?_
       refine RL.m rfl rfl (RL.u (.slSl (.t rfl) .c Tryz.underlying9 (fun _ => by omega)) rfl ?_)
       refine RL.callE hS18 .none Tryz.call125 (.cons (.t rfl) .nil) (fun _ => (number_c (Eng.from' s 6) _ (hg.low hS18.low) (by first | omega | exact Int.le_trans (from_bd _ _).2 (by omega)))) rfl (fun w19 hS20 => ?_)
       refine RL.a rfl rfl ?_
       refine RL.nil (CW.at [Y 6 (i64 (numP s)), Y 7 (i64 (numP (Eng.from' s 6)))] rfl ?_)
       refine CW.seq ?_
       refine CW.sr ?_
       refine RL.m rfl rfl (RL.u (.lss (.t rfl) .c) rfl (RL.m rfl rfl (RL.v (.neg rfl rfl) (.move (.t rfl)) rfl (RL.v (.neg rfl rfl) (.geq (.g rfl (fun h => h)) .c) rfl (RL.u (.or (.t rfl) (.g rfl (fun h => h))) rfl ?_)))))
       refine RL.nil (CW.id ?_)
       refine CW.cond rfl (fun hb13 => ?_) (fun hb13 => ?_)
       ·try simp only [zb, hb1, hb10, hb11, hb12, and_true, true_and, false_or, or_false, not_true_eq_false, not_false_eq_true] at hb13
        refine CW.sr ?_
        refine RL.u (.assign .c) rfl (RL.u (.assign .c) rfl ?_)
        refine RL.nil (CW.id ?_)
        refine CW.ret (hE.r2 rfl rfl rfl ?_)
        have hq : escP s = (0, 0) := by
         unfold escP
         rw [if_neg (by omega), if_neg (by rw [hb10]; simp), if_neg (by omega), if_neg (by omega), if_pos (by omega)]
        rw [hq]; exact ⟨rfl, hS20.low⟩
       ·try simp only [zb, hb1, hb10, hb11, hb12, and_true, true_and, false_or, or_false, not_true_eq_false, not_false_eq_true] at hb13
        refine CW.skip (CW.id ?_)
        refine CW.sr ?_
        refine RL.m rfl rfl (RL.u (.sub (.t rfl) .c (fun _ => by omega)) rfl (RL.u (.bin (v := .int .i64 (((numP s) - 55296) * 1024)) (.t rfl) .c (fun hW w _ => ((fun _ => by simp [go_sem, binOp]; exact Eng.wrap_i64 (by omega))) hW)) rfl (RL.u (.add .c (.t rfl) (fun _ => by omega)) rfl (RL.m rfl rfl (RL.u (.add (.t rfl) (.t rfl) (fun _ => by omega)) rfl ?_)))))
        refine RL.u (.sub (.t rfl) .c (fun _ => by omega)) rfl (RL.u (.cvtK (r := ((65536 + (((numP s) - 55296) * 1024)) + (numP (Eng.from' s 6))) - 56320) (.t rfl) Tryz.underlying3 Tryz.underlying21 (fun _ => by exact Eng.wrap_i32 (by omega))) rfl (RL.a rfl rfl (RL.u (.assign .c) rfl ?_)))
        refine RL.nil (CW.id ?_)
        refine CW.ret (hE.r2 rfl rfl rfl ?_)
        have hq : escP s = (((65536 + (((numP s) - 55296) * 1024)) + (numP (Eng.from' s 6))) - 56320, 12) := by
         unfold escP
         rw [if_neg (by omega), if_neg (by rw [hb10]; simp), if_neg (by omega), if_neg (by omega), if_neg (by omega)]
        rw [hq]; exact ⟨rfl, hS20.low⟩
  ·skip
   refine RL.m rfl rfl ?_
   refine RL.nil (RA.next ?_)
   refine RA.two (i := 0) (j := 2) (by decide +kernel) ?_ ?_
   ·skip
    refine RL.callP Tryz.call118 .nil (short_c (Rs := []) hS2) rfl ?_
    rintro v22 w23 ⟨mb21, rfl, hS25⟩
    replace hS25 : St w (fun _ _ => none) w23 (fun _ _ => none) [.raw mb21 (mobj .u8 shortKV 8)] := hS25
    refine RL.nil (RA.next ?_)
    refine RA.one (i := 2) (by decide +kernel) ?_
    skip
    refine RL.u (.idxS (.t rfl) .c Tryz.underlying9 (fun _ => by omega)) rfl ?_
    refine RL.nil (RA.next ?_)
    refine RA.one (i := 3) (by decide +kernel) ?_
    skip
    refine RL.u (.lookupOk (k := .u8) (v := (.int .i32 (shV (byteAt s 1)))) (q := shIs (byteAt s 1)) hS25 extEq (i := 0) rfl (.t rfl) (.t rfl) Tryz.underlying143 Tryz.underlying5 Tryz.zeroValue21 (short_get _).1 (short_get _).2) rfl ?_
    refine RL.nil (RA.next ?_)
    refine RA.one (i := 4) (by decide +kernel) ?_
    skip
    refine RL.m rfl rfl ?_
    refine RL.nil (RA.next ?_)
    refine RA.two (i := 5) (j := 6) (by decide +kernel) ?_ ?_
    ·skip
     refine RL.u (.ex (.t rfl) rfl) rfl ?_
     refine RL.nil (RA.next ?_)
     refine RA.two (i := 6) (j := 7) (by decide +kernel) ?_ ?_
     ·skip
      refine RL.u (.ex (.t rfl) rfl) rfl ?_
      refine RL.nil (RA.next ?_)
      refine RA.one (i := 7) (by decide +kernel) ?_
      skip
      refine RL.a rfl rfl ?_
      refine RL.nil (RA.next ?_)
      refine RA.one (i := 8) (by decide +kernel) ?_
      skip
      refine RL.a rfl rfl ?_
      refine RL.nil (RA.next ?_)
      refine RA.nil (by decide +kernel) ?_
      refine (CW.at [Y 0 (str s), Y 4 (.int .i32 (shV (byteAt s 1))), Y 5 (.bool (shIs (byteAt s 1)))] rfl ?_)
      refine CW.sr ?_
      refine RL.m rfl rfl ?_
      refine RL.nil (CW.id ?_)
      refine CW.cond rfl (fun hb14 => ?_) (fun hb14 => ?_)
      ·try simp only [zb, hb1, and_true, true_and, false_or, or_false, not_true_eq_false, not_false_eq_true] at hb14
       refine CW.sr ?_
       refine RL.m rfl rfl (RL.a rfl rfl (RL.u (.assign .c) rfl ?_))
       refine RL.nil (CW.id ?_)
       refine CW.ret (hE.r2 rfl rfl rfl ?_)
       have hq : escP s = (shV (byteAt s 1), 2) := by
        unfold escP
        rw [if_neg (by omega), if_pos hb14]
       rw [hq]; exact ⟨rfl, hS25.low⟩
      ·try simp only [zb, hb1, and_true, true_and, false_or, or_false, not_true_eq_false, not_false_eq_true] at hb14
       refine CW.skip (CW.id ?_)
       refine CW.sr ?_
       refine RL.m rfl rfl ?_
       refine RL.callE hS25 .none Tryz.call125 (.cons (.t rfl) .nil) (fun _ => (number_c s _ (hg.low hS25.low) (by first | omega | exact Int.le_trans (from_bd _ _).2 (by omega)))) rfl (fun w27 hS28 => ?_)
       refine RL.a rfl rfl ?_
       refine RL.nil (CW.at [Y 0 (str s), Y 6 (i64 (numP s))] rfl ?_)
       refine CW.seq ?_
       refine CW.block ?_
       refine CW.sr ?_
       refine RL.m rfl rfl (RL.u (.lss (.t rfl) .c) rfl (RL.m rfl rfl (RL.v (.neg rfl rfl) (.move (.t rfl)) rfl (RL.v (.neg rfl rfl) (.geq (.g rfl (fun h => h)) .c) rfl (RL.v (.neg rfl rfl) (.move (.g rfl (fun h => h))) rfl ?_)))))
       refine RL.v (.posG rfl rfl) (.move (.t rfl)) rfl (RL.v (.posG rfl rfl) (.lss (.g rfl (fun h => h)) .c) rfl (RL.v (.neg rfl rfl) (.and (.g rfl (fun h => h)) (.g rfl (fun h => h))) rfl (RL.u (.or (.t rfl) (.g rfl (fun h => h))) rfl (RL.a rfl rfl ?_))))
       refine RL.nil (CW.id ?_)
       refine CW.cond rfl (fun hb15 => ?_) (fun hb15 => ?_)
       ·try simp only [zb, hb1, hb14, and_true, true_and, false_or, or_false, not_true_eq_false, not_false_eq_true] at hb15
        refine CW.sr ?_
        refine RL.u (.assign .c) rfl (RL.u (.assign .c) rfl ?_)
        refine RL.nil (CW.id ?_)
        refine CW.ret (hE.r2 rfl rfl rfl ?_)
        have hq : escP s = (0, 0) := by
         unfold escP
         rw [if_neg (by omega), if_neg (by rw [hb14]; simp), if_pos (by omega)]
        rw [hq]; exact ⟨rfl, hS28.low⟩
       ·try simp only [zb, hb1, hb14, and_true, true_and, false_or, or_false, not_true_eq_false, not_false_eq_true] at hb15
        refine CW.sr ?_
        refine RL.m rfl rfl (RL.u (.lss (.t rfl) .c) rfl (RL.m rfl rfl (RL.v (.neg rfl rfl) (.move (.t rfl)) rfl (RL.v (.neg rfl rfl) (.geq (.g rfl (fun h => h)) .c) rfl (RL.u (.or (.t rfl) (.g rfl (fun h => h))) rfl ?_)))))
        refine RL.a rfl rfl ?_
        refine RL.nil (CW.id ?_)
        refine CW.cond rfl (fun hb16 => ?_) (fun hb16 => ?_)
        ·try simp only [zb, hb1, hb14, hb15, and_true, true_and, false_or, or_false, not_true_eq_false, not_false_eq_true] at hb16
         refine CW.sr ?_
         refine RL.m rfl rfl (RL.u (.cvtK (r := numP s) (.t rfl) Tryz.underlying3 Tryz.underlying21 (fun _ => by exact Eng.wrap_i32 (by omega))) rfl (RL.a rfl rfl (RL.u (.assign .c) rfl ?_)))
         refine RL.nil (CW.id ?_)
         refine CW.ret (hE.r2 rfl rfl rfl ?_)
         have hq : escP s = (numP s, 6) := by
          unfold escP
          rw [if_neg (by omega), if_neg (by rw [hb14]; simp), if_neg (by omega), if_pos (by omega)]
         rw [hq]; exact ⟨rfl, hS28.low⟩
        ·try simp only [zb, hb1, hb14, hb15, and_true, true_and, false_or, or_false, not_true_eq_false, not_false_eq_true] at hb16
         refine CW.skip (CW.id ?_)
         refine CW.sr ?_
         refine RL.m rfl rfl (RL.u (.slSl (.t rfl) .c Tryz.underlying9 (fun _ => by omega)) rfl ?_)
         refine RL.callE hS28 .none Tryz.call125 (.cons (.t rfl) .nil) (fun _ => (number_c (Eng.from' s 6) _ (hg.low hS28.low) (by first | omega | exact Int.le_trans (from_bd _ _).2 (by omega)))) rfl (fun w29 hS30 => ?_)
         refine RL.a rfl rfl ?_
         refine RL.nil (CW.at [Y 6 (i64 (numP s)), Y 7 (i64 (numP (Eng.from' s 6)))] rfl ?_)
         refine CW.seq ?_
         refine CW.sr ?_
         refine RL.m rfl rfl (RL.u (.lss (.t rfl) .c) rfl (RL.m rfl rfl (RL.v (.neg rfl rfl) (.move (.t rfl)) rfl (RL.v (.neg rfl rfl) (.geq (.g rfl (fun h => h)) .c) rfl (RL.u (.or (.t rfl) (.g rfl (fun h => h))) rfl ?_)))))
         refine RL.nil (CW.id ?_)
         refine CW.cond rfl (fun hb17 => ?_) (fun hb17 => ?_)
         ·try simp only [zb, hb1, hb14, hb15, hb16, and_true, true_and, false_or, or_false, not_true_eq_false, not_false_eq_true] at hb17
          refine CW.sr ?_
          refine RL.u (.assign .c) rfl (RL.u (.assign .c) rfl ?_)
          refine RL.nil (CW.id ?_)
          refine CW.ret (hE.r2 rfl rfl rfl ?_)
          have hq : escP s = (0, 0) := by
           unfold escP
           rw [if_neg (by omega), if_neg (by rw [hb14]; simp), if_neg (by omega), if_neg (by omega), if_pos (by omega)]
          rw [hq]; exact ⟨rfl, hS30.low⟩
         ·try simp only [zb, hb1, hb14, hb15, hb16, and_true, true_and, false_or, or_false, not_true_eq_false, not_false_eq_true] at hb17
          refine CW.skip (CW.id ?_)
          refine CW.sr ?_
          refine RL.m rfl rfl (RL.u (.sub (.t rfl) .c (fun _ => by omega)) rfl (RL.u (.bin (v := .int .i64 (((numP s) - 55296) * 1024)) (.t rfl) .c (fun hW w _ => ((fun _ => by simp [go_sem, binOp]; exact Eng.wrap_i64 (by omega))) hW)) rfl (RL.u (.add .c (.t rfl) (fun _ => by omega)) rfl (RL.m rfl rfl (RL.u (.add (.t rfl) (.t rfl) (fun _ => by omega)) rfl ?_)))))
          refine RL.u (.sub (.t rfl) .c (fun _ => by omega)) rfl (RL.u (.cvtK (r := ((65536 + (((numP s) - 55296) * 1024)) + (numP (Eng.from' s 6))) - 56320) (.t rfl) Tryz.underlying3 Tryz.underlying21 (fun _ => by exact Eng.wrap_i32 (by omega))) rfl (RL.a rfl rfl (RL.u (.assign .c) rfl ?_)))
          refine RL.nil (CW.id ?_)
          refine CW.ret (hE.r2 rfl rfl rfl ?_)
          have hq : escP s = (((65536 + (((numP s) - 55296) * 1024)) + (numP (Eng.from' s 6))) - 56320, 12) := by
           unfold escP
           rw [if_neg (by omega), if_neg (by rw [hb14]; simp), if_neg (by omega), if_neg (by omega), if_neg (by omega)]
          rw [hq]; exact ⟨rfl, hS30.low⟩
     ·skip
      refine RL.a rfl rfl ?_
      refine RL.nil (RA.next ?_)
      refine RA.one (i := 6) (by decide +kernel) ?_
      skip
      refine RL.u (.ex (.t rfl) rfl) rfl ?_
      refine RL.nil (RA.next ?_)
      refine RA.one (i := 8) (by decide +kernel) ?_
      skip
      refine RL.a rfl rfl ?_
      refine RL.nil (RA.next ?_)
      refine RA.nil (by decide +kernel) ?_
      refine (CW.at [Y 0 (str s), Y 4 (.int .i32 (shV (byteAt s 1))), Y 5 (.bool (shIs (byteAt s 1)))] rfl ?_)
      refine CW.sr ?_
      refine RL.m rfl rfl ?_
      refine RL.nil (CW.id ?_)
      refine CW.cond rfl (fun hb18 => ?_) (fun hb18 => ?_)
      ·try simp only [zb, hb1, and_true, true_and, false_or, or_false, not_true_eq_false, not_false_eq_true] at hb18
       refine CW.sr ?_
       refine RL.m rfl rfl (RL.a rfl rfl (RL.u (.assign .c) rfl ?_))
       refine RL.nil (CW.id ?_)
       refine CW.ret (hE.r2 rfl rfl rfl ?_)
       have hq : escP s = (shV (byteAt s 1), 2) := by
        unfold escP
        rw [if_neg (by omega), if_pos hb18]
       rw [hq]; exact ⟨rfl, hS25.low⟩
      ·try simp only [zb, hb1, and_true, true_and, false_or, or_false, not_true_eq_false, not_false_eq_true] at hb18
       refine CW.skip (CW.id ?_)
       refine CW.sr ?_
       refine RL.m rfl rfl ?_
       refine RL.callE hS25 .none Tryz.call125 (.cons (.t rfl) .nil) (fun _ => (number_c s _ (hg.low hS25.low) (by first | omega | exact Int.le_trans (from_bd _ _).2 (by omega)))) rfl (fun w31 hS32 => ?_)
       refine RL.a rfl rfl ?_
       refine RL.nil (CW.at [Y 0 (str s), Y 6 (i64 (numP s))] rfl ?_)
       refine CW.seq ?_
       refine CW.block ?_
       refine CW.sr ?_
       refine RL.m rfl rfl (RL.u (.lss (.t rfl) .c) rfl (RL.m rfl rfl (RL.v (.neg rfl rfl) (.move (.t rfl)) rfl (RL.v (.neg rfl rfl) (.geq (.g rfl (fun h => h)) .c) rfl (RL.v (.neg rfl rfl) (.move (.g rfl (fun h => h))) rfl ?_)))))
       refine RL.v (.posG rfl rfl) (.move (.t rfl)) rfl (RL.v (.posG rfl rfl) (.lss (.g rfl (fun h => h)) .c) rfl (RL.v (.neg rfl rfl) (.and (.g rfl (fun h => h)) (.g rfl (fun h => h))) rfl (RL.u (.or (.t rfl) (.g rfl (fun h => h))) rfl (RL.a rfl rfl ?_))))
       refine RL.nil (CW.id ?_)
       refine CW.cond rfl (fun hb19 => ?_) (fun hb19 => ?_)
       ·try simp only [zb, hb1, hb18, and_true, true_and, false_or, or_false, not_true_eq_false, not_false_eq_true] at hb19
        refine CW.sr ?_
        refine RL.u (.assign .c) rfl (RL.u (.assign .c) rfl ?_)
        refine RL.nil (CW.id ?_)
        refine CW.ret (hE.r2 rfl rfl rfl ?_)
        have hq : escP s = (0, 0) := by
         unfold escP
         rw [if_neg (by omega), if_neg (by rw [hb18]; simp), if_pos (by omega)]
        rw [hq]; exact ⟨rfl, hS32.low⟩
       ·try simp only [zb, hb1, hb18, and_true, true_and, false_or, or_false, not_true_eq_false, not_false_eq_true] at hb19
        refine CW.sr ?_
        refine RL.m rfl rfl (RL.u (.lss (.t rfl) .c) rfl (RL.m rfl rfl (RL.v (.neg rfl rfl) (.move (.t rfl)) rfl (RL.v (.neg rfl rfl) (.geq (.g rfl (fun h => h)) .c) rfl (RL.u (.or (.t rfl) (.g rfl (fun h => h))) rfl ?_)))))
        refine RL.a rfl rfl ?_
        refine RL.nil (CW.id ?_)
        refine CW.cond rfl (fun hb20 => ?_) (fun hb20 => ?_)
        ·try simp only [zb, hb1, hb18, hb19, and_true, true_and, false_or, or_false, not_true_eq_false, not_false_eq_true] at hb20
         refine CW.sr ?_
         refine RL.m rfl rfl (RL.u (.cvtK (r := numP s) (.t rfl) Tryz.underlying3 Tryz.underlying21 (fun _ => by exact Eng.wrap_i32 (by omega))) rfl (RL.a rfl rfl (RL.u (.assign .c) rfl ?_)))
         refine RL.nil (CW.id ?_)
         refine CW.ret (hE.r2 rfl rfl rfl ?_)
         have hq : escP s = (numP s, 6) := by
          unfold escP
          rw [if_neg (by omega), if_neg (by rw [hb18]; simp), if_neg (by omega), if_pos (by omega)]
         rw [hq]; exact ⟨rfl, hS32.low⟩
        ·try simp only [zb, hb1, hb18, hb19, and_true, true_and, false_or, or_false, not_true_eq_false, not_false_eq_true] at hb20
         refine CW.skip (CW.id ?_)
         refine CW.sr ?_
         refine RL.m rfl rfl (RL.u (.slSl (.t rfl) .c Tryz.underlying9 (fun _ => by omega)) rfl ?_)
         refine RL.callE hS32 .none Tryz.call125 (.cons (.t rfl) .nil) (fun _ => (number_c (Eng.from' s 6) _ (hg.low hS32.low) (by first | omega | exact Int.le_trans (from_bd _ _).2 (by omega)))) rfl (fun w33 hS34 => ?_)
         refine RL.a rfl rfl ?_
         refine RL.nil (CW.at [Y 6 (i64 (numP s)), Y 7 (i64 (numP (Eng.from' s 6)))] rfl ?_)
         refine CW.seq ?_
         refine CW.sr ?_
         refine RL.m rfl rfl (RL.u (.lss (.t rfl) .c) rfl (RL.m rfl rfl (RL.v (.neg rfl rfl) (.move (.t rfl)) rfl (RL.v (.neg rfl rfl) (.geq (.g rfl (fun h => h)) .c) rfl (RL.u (.or (.t rfl) (.g rfl (fun h => h))) rfl ?_)))))
         refine RL.nil (CW.id ?_)
         refine CW.cond rfl (fun hb21 => ?_) (fun hb21 => ?_)
         ·try simp only [zb, hb1, hb18, hb19, hb20, and_true, true_and, false_or, or_false, not_true_eq_false, not_false_eq_true] at hb21
          refine CW.sr ?_
          refine RL.u (.assign .c) rfl (RL.u (.assign .c) rfl ?_)
          refine RL.nil (CW.id ?_)
          refine CW.ret (hE.r2 rfl rfl rfl ?_)
          have hq : escP s = (0, 0) := by
           unfold escP
           rw [if_neg (by omega), if_neg (by rw [hb18]; simp), if_neg (by omega), if_neg (by omega), if_pos (by omega)]
          rw [hq]; exact ⟨rfl, hS34.low⟩
         ·try simp only [zb, hb1, hb18, hb19, hb20, and_true, true_and, false_or, or_false, not_true_eq_false, not_false_eq_true] at hb21
          refine CW.skip (CW.id ?_)
          refine CW.sr ?_
          refine RL.m rfl rfl (RL.u (.sub (.t rfl) .c (fun _ => by omega)) rfl (RL.u (.bin (v := .int .i64 (((numP s) - 55296) * 1024)) (.t rfl) .c (fun hW w _ => ((fun _ => by simp [go_sem, binOp]; exact Eng.wrap_i64 (by omega))) hW)) rfl (RL.u (.add .c (.t rfl) (fun _ => by omega)) rfl (RL.m rfl rfl (RL.u (.add (.t rfl) (.t rfl) (fun _ => by omega)) rfl ?_)))))
          refine RL.u (.sub (.t rfl) .c (fun _ => by omega)) rfl (RL.u (.cvtK (r := ((65536 + (((numP s) - 55296) * 1024)) + (numP (Eng.from' s 6))) - 56320) (.t rfl) Tryz.underlying3 Tryz.underlying21 (fun _ => by exact Eng.wrap_i32 (by omega))) rfl (RL.a rfl rfl (RL.u (.assign .c) rfl ?_)))
          refine RL.nil (CW.id ?_)
          refine CW.ret (hE.r2 rfl rfl rfl ?_)
          have hq : escP s = (((65536 + (((numP s) - 55296) * 1024)) + (numP (Eng.from' s 6))) - 56320, 12) := by
           unfold escP
           rw [if_neg (by omega), if_neg (by rw [hb18]; simp), if_neg (by omega), if_neg (by omega), if_neg (by omega)]
          rw [hq]; exact ⟨rfl, hS34.low⟩
    ·skip
     refine RL.u (.ex (.t rfl) rfl) rfl ?_
     refine RL.nil (RA.next ?_)
     refine RA.one (i := 5) (by decide +kernel) ?_
     skip
     refine RL.u (.ex (.t rfl) rfl) rfl ?_
     refine RL.nil (RA.next ?_)
     refine RA.one (i := 7) (by decide +kernel) ?_
     skip
     refine RL.a rfl rfl ?_
     refine RL.nil (RA.next ?_)
     refine RA.one (i := 8) (by decide +kernel) ?_
     skip
     refine RL.a rfl rfl ?_
     refine RL.nil (RA.next ?_)
     refine RA.nil (by decide +kernel) ?_
     refine (CW.at [Y 0 (str s), Y 4 (.int .i32 (shV (byteAt s 1))), Y 5 (.bool (shIs (byteAt s 1)))] rfl ?_)
     refine CW.sr ?_
     refine RL.m rfl rfl ?_
     refine RL.nil (CW.id ?_)
     refine CW.cond rfl (fun hb22 => ?_) (fun hb22 => ?_)
     ·try simp only [zb, hb1, and_true, true_and, false_or, or_false, not_true_eq_false, not_false_eq_true] at hb22
      refine CW.sr ?_
      refine RL.m rfl rfl (RL.a rfl rfl (RL.u (.assign .c) rfl ?_))
      refine RL.nil (CW.id ?_)
      refine CW.ret (hE.r2 rfl rfl rfl ?_)
      have hq : escP s = (shV (byteAt s 1), 2) := by
       unfold escP
       rw [if_neg (by omega), if_pos hb22]
      rw [hq]; exact ⟨rfl, hS25.low⟩
     ·try simp only [zb, hb1, and_true, true_and, false_or, or_false, not_true_eq_false, not_false_eq_true] at hb22
      refine CW.skip (CW.id ?_)
      refine CW.sr ?_
      refine RL.m rfl rfl ?_
      refine RL.callE hS25 .none Tryz.call125 (.cons (.t rfl) .nil) (fun _ => (number_c s _ (hg.low hS25.low) (by first | omega | exact Int.le_trans (from_bd _ _).2 (by omega)))) rfl (fun w35 hS36 => ?_)
      refine RL.a rfl rfl ?_
      refine RL.nil (CW.at [Y 0 (str s), Y 6 (i64 (numP s))] rfl ?_)
      refine CW.seq ?_
      refine CW.block ?_
      refine CW.sr ?_
      refine RL.m rfl rfl (RL.u (.lss (.t rfl) .c) rfl (RL.m rfl rfl (RL.v (.neg rfl rfl) (.move (.t rfl)) rfl (RL.v (.neg rfl rfl) (.geq (.g rfl (fun h => h)) .c) rfl (RL.v (.neg rfl rfl) (.move (.g rfl (fun h => h))) rfl ?_)))))
      refine RL.v (.posG rfl rfl) (.move (.t rfl)) rfl (RL.v (.posG rfl rfl) (.lss (.g rfl (fun h => h)) .c) rfl (RL.v (.neg rfl rfl) (.and (.g rfl (fun h => h)) (.g rfl (fun h => h))) rfl (RL.u (.or (.t rfl) (.g rfl (fun h => h))) rfl (RL.a rfl rfl ?_))))
      refine RL.nil (CW.id ?_)
      refine CW.cond rfl (fun hb23 => ?_) (fun hb23 => ?_)
      ·try simp only [zb, hb1, hb22, and_true, true_and, false_or, or_false, not_true_eq_false, not_false_eq_true] at hb23
       refine CW.sr ?_
       refine RL.u (.assign .c) rfl (RL.u (.assign .c) rfl ?_)
       refine RL.nil (CW.id ?_)
       refine CW.ret (hE.r2 rfl rfl rfl ?_)
       have hq : escP s = (0, 0) := by
        unfold escP
        rw [if_neg (by omega), if_neg (by rw [hb22]; simp), if_pos (by omega)]
       rw [hq]; exact ⟨rfl, hS36.low⟩
      ·try simp only [zb, hb1, hb22, and_true, true_and, false_or, or_false, not_true_eq_false, not_false_eq_true] at hb23
       refine CW.sr ?_
       refine RL.m rfl rfl (RL.u (.lss (.t rfl) .c) rfl (RL.m rfl rfl (RL.v (.neg rfl rfl) (.move (.t rfl)) rfl (RL.v (.neg rfl rfl) (.geq (.g rfl (fun h => h)) .c) rfl (RL.u (.or (.t rfl) (.g rfl (fun h => h))) rfl ?_)))))
       refine RL.a rfl rfl ?_
       refine RL.nil (CW.id ?_)
       refine CW.cond rfl (fun hb24 => ?_) (fun hb24 => ?_)
       ·try simp only [zb, hb1, hb22, hb23, and_true, true_and, false_or, or_false, not_true_eq_false, not_false_eq_true] at hb24
        refine CW.sr ?_
        refine RL.m rfl rfl (RL.u (.cvtK (r := numP s) (.t rfl) Tryz.underlying3 Tryz.underlying21 (fun _ => by exact Eng.wrap_i32 (by omega))) rfl (RL.a rfl rfl (RL.u (.assign .c) rfl ?_)))
        refine RL.nil (CW.id ?_)
        refine CW.ret (hE.r2 rfl rfl rfl ?_)
        have hq : escP s = (numP s, 6) := by
         unfold escP
         rw [if_neg (by omega), if_neg (by rw [hb22]; simp), if_neg (by omega), if_pos (by omega)]
        rw [hq]; exact ⟨rfl, hS36.low⟩
       ·try simp only [zb, hb1, hb22, hb23, and_true, true_and, false_or, or_false, not_true_eq_false, not_false_eq_true] at hb24
        refine CW.skip (CW.id ?_)
        refine CW.sr ?_
        refine RL.m rfl rfl (RL.u (.slSl (.t rfl) .c Tryz.underlying9 (fun _ => by omega)) rfl ?_)
        refine RL.callE hS36 .none Tryz.call125 (.cons (.t rfl) .nil) (fun _ => (number_c (Eng.from' s 6) _ (hg.low hS36.low) (by first | omega | exact Int.le_trans (from_bd _ _).2 (by omega)))) rfl (fun w37 hS38 => ?_)
        refine RL.a rfl rfl ?_
        refine RL.nil (CW.at [Y 6 (i64 (numP s)), Y 7 (i64 (numP (Eng.from' s 6)))] rfl ?_)
        refine CW.seq ?_
        refine CW.sr ?_
        refine RL.m rfl rfl (RL.u (.lss (.t rfl) .c) rfl (RL.m rfl rfl (RL.v (.neg rfl rfl) (.move (.t rfl)) rfl (RL.v (.neg rfl rfl) (.geq (.g rfl (fun h => h)) .c) rfl (RL.u (.or (.t rfl) (.g rfl (fun h => h))) rfl ?_)))))
        refine RL.nil (CW.id ?_)
        refine CW.cond rfl (fun hb25 => ?_) (fun hb25 => ?_)
        ·try simp only [zb, hb1, hb22, hb23, hb24, and_true, true_and, false_or, or_false, not_true_eq_false, not_false_eq_true] at hb25
         refine CW.sr ?_
         refine RL.u (.assign .c) rfl (RL.u (.assign .c) rfl ?_)
         refine RL.nil (CW.id ?_)
         refine CW.ret (hE.r2 rfl rfl rfl ?_)
         have hq : escP s = (0, 0) := by
          unfold escP
          rw [if_neg (by omega), if_neg (by rw [hb22]; simp), if_neg (by omega), if_neg (by omega), if_pos (by omega)]
         rw [hq]; exact ⟨rfl, hS38.low⟩
        ·try simp only [zb, hb1, hb22, hb23, hb24, and_true, true_and, false_or, or_false, not_true_eq_false, not_false_eq_true] at hb25
         refine CW.skip (CW.id ?_)
         refine CW.sr ?_
         refine RL.m rfl rfl (RL.u (.sub (.t rfl) .c (fun _ => by omega)) rfl (RL.u (.bin (v := .int .i64 (((numP s) - 55296) * 1024)) (.t rfl) .c (fun hW w _ => ((fun _ => by simp [go_sem, binOp]; exact Eng.wrap_i64 (by omega))) hW)) rfl (RL.u (.add .c (.t rfl) (fun _ => by omega)) rfl (RL.m rfl rfl (RL.u (.add (.t rfl) (.t rfl) (fun _ => by omega)) rfl ?_)))))
         refine RL.u (.sub (.t rfl) .c (fun _ => by omega)) rfl (RL.u (.cvtK (r := ((65536 + (((numP s) - 55296) * 1024)) + (numP (Eng.from' s 6))) - 56320) (.t rfl) Tryz.underlying3 Tryz.underlying21 (fun _ => by exact Eng.wrap_i32 (by omega))) rfl (RL.a rfl rfl (RL.u (.assign .c) rfl ?_)))
         refine RL.nil (CW.id ?_)
         refine CW.ret (hE.r2 rfl rfl rfl ?_)
         have hq : escP s = (((65536 + (((numP s) - 55296) * 1024)) + (numP (Eng.from' s 6))) - 56320, 12) := by
          unfold escP
          rw [if_neg (by omega), if_neg (by rw [hb22]; simp), if_neg (by omega), if_neg (by omega), if_neg (by omega)]
         rw [hq]; exact ⟨rfl, hS38.low⟩
   ·skip
    refine RL.u (.idxS (.t rfl) .c Tryz.underlying9 (fun _ => by omega)) rfl ?_
    refine RL.nil (RA.next ?_)
    refine RA.one (i := 0) (by decide +kernel) ?_
    skip
    refine RL.callP Tryz.call118 .nil (short_c (Rs := []) hS2) rfl ?_
    rintro v40 w41 ⟨mb39, rfl, hS43⟩
    replace hS43 : St w (fun _ _ => none) w41 (fun _ _ => none) [.raw mb39 (mobj .u8 shortKV 8)] := hS43
    refine RL.nil (RA.next ?_)
    refine RA.one (i := 3) (by decide +kernel) ?_
    skip
    refine RL.u (.lookupOk (k := .u8) (v := (.int .i32 (shV (byteAt s 1)))) (q := shIs (byteAt s 1)) hS43 extEq (i := 0) rfl (.t rfl) (.t rfl) Tryz.underlying143 Tryz.underlying5 Tryz.zeroValue21 (short_get _).1 (short_get _).2) rfl ?_
    refine RL.nil (RA.next ?_)
    refine RA.one (i := 4) (by decide +kernel) ?_
    skip
    refine RL.m rfl rfl ?_
    refine RL.nil (RA.next ?_)
    refine RA.two (i := 5) (j := 6) (by decide +kernel) ?_ ?_
    ·skip
     refine RL.u (.ex (.t rfl) rfl) rfl ?_
     refine RL.nil (RA.next ?_)
     refine RA.two (i := 6) (j := 7) (by decide +kernel) ?_ ?_
     ·skip
      refine RL.u (.ex (.t rfl) rfl) rfl ?_
      refine RL.nil (RA.next ?_)
      refine RA.one (i := 7) (by decide +kernel) ?_
      skip
      refine RL.a rfl rfl ?_
      refine RL.nil (RA.next ?_)
      refine RA.one (i := 8) (by decide +kernel) ?_
      skip
      refine RL.a rfl rfl ?_
      refine RL.nil (RA.next ?_)
      refine RA.nil (by decide +kernel) ?_
      refine (CW.at [Y 0 (str s), Y 4 (.int .i32 (shV (byteAt s 1))), Y 5 (.bool (shIs (byteAt s 1)))] rfl ?_)
      refine CW.sr ?_
      refine RL.m rfl rfl ?_
      refine RL.nil (CW.id ?_)
      refine CW.cond rfl (fun hb26 => ?_) (fun hb26 => ?_)
      ·try simp only [zb, hb1, and_true, true_and, false_or, or_false, not_true_eq_false, not_false_eq_true] at hb26
       refine CW.sr ?_
       refine RL.m rfl rfl (RL.a rfl rfl (RL.u (.assign .c) rfl ?_))
       refine RL.nil (CW.id ?_)
       refine CW.ret (hE.r2 rfl rfl rfl ?_)
       have hq : escP s = (shV (byteAt s 1), 2) := by
        unfold escP
        rw [if_neg (by omega), if_pos hb26]
       rw [hq]; exact ⟨rfl, hS43.low⟩
      ·try simp only [zb, hb1, and_true, true_and, false_or, or_false, not_true_eq_false, not_false_eq_true] at hb26
       refine CW.skip (CW.id ?_)
       refine CW.sr ?_
       refine RL.m rfl rfl ?_
       refine RL.callE hS43 .none Tryz.call125 (.cons (.t rfl) .nil) (fun _ => (number_c s _ (hg.low hS43.low) (by first | omega | exact Int.le_trans (from_bd _ _).2 (by omega)))) rfl (fun w45 hS46 => ?_)
       refine RL.a rfl rfl ?_
       refine RL.nil (CW.at [Y 0 (str s), Y 6 (i64 (numP s))] rfl ?_)
       refine CW.seq ?_
       refine CW.block ?_
       refine CW.sr ?_
       refine RL.m rfl rfl (RL.u (.lss (.t rfl) .c) rfl (RL.m rfl rfl (RL.v (.neg rfl rfl) (.move (.t rfl)) rfl (RL.v (.neg rfl rfl) (.geq (.g rfl (fun h => h)) .c) rfl (RL.v (.neg rfl rfl) (.move (.g rfl (fun h => h))) rfl ?_)))))
       refine RL.v (.posG rfl rfl) (.move (.t rfl)) rfl (RL.v (.posG rfl rfl) (.lss (.g rfl (fun h => h)) .c) rfl (RL.v (.neg rfl rfl) (.and (.g rfl (fun h => h)) (.g rfl (fun h => h))) rfl (RL.u (.or (.t rfl) (.g rfl (fun h => h))) rfl (RL.a rfl rfl ?_))))
       refine RL.nil (CW.id ?_)
       refine CW.cond rfl (fun hb27 => ?_) (fun hb27 => ?_)
       ·try simp only [zb, hb1, hb26, and_true, true_and, false_or, or_false, not_true_eq_false, not_false_eq_true] at hb27
        refine CW.sr ?_
        refine RL.u (.assign .c) rfl (RL.u (.assign .c) rfl ?_)
        refine RL.nil (CW.id ?_)
        refine CW.ret (hE.r2 rfl rfl rfl ?_)
        have hq : escP s = (0, 0) := by
         unfold escP
         rw [if_neg (by omega), if_neg (by rw [hb26]; simp), if_pos (by omega)]
        rw [hq]; exact ⟨rfl, hS46.low⟩
       ·try simp only [zb, hb1, hb26, and_true, true_and, false_or, or_false, not_true_eq_false, not_false_eq_true] at hb27
        refine CW.sr ?_
        refine RL.m rfl rfl (RL.u (.lss (.t rfl) .c) rfl (RL.m rfl rfl (RL.v (.neg rfl rfl) (.move (.t rfl)) rfl (RL.v (.neg rfl rfl) (.geq (.g rfl (fun h => h)) .c) rfl (RL.u (.or (.t rfl) (.g rfl (fun h => h))) rfl ?_)))))
        refine RL.a rfl rfl ?_
        refine RL.nil (CW.id ?_)
        refine CW.cond rfl (fun hb28 => ?_) (fun hb28 => ?_)
        ·try simp only [zb, hb1, hb26, hb27, and_true, true_and, false_or, or_false, not_true_eq_false, not_false_eq_true] at hb28
         refine CW.sr ?_
         refine RL.m rfl rfl (RL.u (.cvtK (r := numP s) (.t rfl) Tryz.underlying3 Tryz.underlying21 (fun _ => by exact Eng.wrap_i32 (by omega))) rfl (RL.a rfl rfl (RL.u (.assign .c) rfl ?_)))
         refine RL.nil (CW.id ?_)
         refine CW.ret (hE.r2 rfl rfl rfl ?_)
         have hq : escP s = (numP s, 6) := by
          unfold escP
          rw [if_neg (by omega), if_neg (by rw [hb26]; simp), if_neg (by omega), if_pos (by omega)]
         rw [hq]; exact ⟨rfl, hS46.low⟩
        ·try simp only [zb, hb1, hb26, hb27, and_true, true_and, false_or, or_false, not_true_eq_false, not_false_eq_true] at hb28
         refine CW.skip (CW.id ?_)
         refine CW.sr ?_
         refine RL.m rfl rfl (RL.u (.slSl (.t rfl) .c Tryz.underlying9 (fun _ => by omega)) rfl ?_)
         refine RL.callE hS46 .none Tryz.call125 (.cons (.t rfl) .nil) (fun _ => (number_c (Eng.from' s 6) _ (hg.low hS46.low) (by first | omega | exact Int.le_trans (from_bd _ _).2 (by omega)))) rfl (fun w47 hS48 => ?_)
         refine RL.a rfl rfl ?_
         refine RL.nil (CW.at [Y 6 (i64 (numP s)), Y 7 (i64 (numP (Eng.from' s 6)))] rfl ?_)
         refine CW.seq ?_
         refine CW.sr ?_
         refine RL.m rfl rfl (RL.u (.lss (.t rfl) .c) rfl (RL.m rfl rfl (RL.v (.neg rfl rfl) (.move (.t rfl)) rfl (RL.v (.neg rfl rfl) (.geq (.g rfl (fun h => h)) .c) rfl (RL.u (.or (.t rfl) (.g rfl (fun h => h))) rfl ?_)))))
         refine RL.nil (CW.id ?_)
         refine CW.cond rfl (fun hb29 => ?_) (fun hb29 => ?_)
         ·try simp only [zb, hb1, hb26, hb27, hb28, and_true, true_and, false_or, or_false, not_true_eq_false, not_false_eq_true] at hb29
          refine CW.sr ?_
          refine RL.u (.assign .c) rfl (RL.u (.assign .c) rfl ?_)
          refine RL.nil (CW.id ?_)
          refine CW.ret (hE.r2 rfl rfl rfl ?_)
          have hq : escP s = (0, 0) := by
           unfold escP
           rw [if_neg (by omega), if_neg (by rw [hb26]; simp), if_neg (by omega), if_neg (by omega), if_pos (by omega)]
          rw [hq]; exact ⟨rfl, hS48.low⟩
         ·try simp only [zb, hb1, hb26, hb27, hb28, and_true, true_and, false_or, or_false, not_true_eq_false, not_false_eq_true] at hb29
          refine CW.skip (CW.id ?_)
          refine CW.sr ?_
          refine RL.m rfl rfl (RL.u (.sub (.t rfl) .c (fun _ => by omega)) rfl (RL.u (.bin (v := .int .i64 (((numP s) - 55296) * 1024)) (.t rfl) .c (fun hW w _ => ((fun _ => by simp [go_sem, binOp]; exact Eng.wrap_i64 (by omega))) hW)) rfl (RL.u (.add .c (.t rfl) (fun _ => by omega)) rfl (RL.m rfl rfl (RL.u (.add (.t rfl) (.t rfl) (fun _ => by omega)) rfl ?_)))))
          refine RL.u (.sub (.t rfl) .c (fun _ => by omega)) rfl (RL.u (.cvtK (r := ((65536 + (((numP s) - 55296) * 1024)) + (numP (Eng.from' s 6))) - 56320) (.t rfl) Tryz.underlying3 Tryz.underlying21 (fun _ => by exact Eng.wrap_i32 (by omega))) rfl (RL.a rfl rfl (RL.u (.assign .c) rfl ?_)))
          refine RL.nil (CW.id ?_)
          refine CW.ret (hE.r2 rfl rfl rfl ?_)
          have hq : escP s = (((65536 + (((numP s) - 55296) * 1024)) + (numP (Eng.from' s 6))) - 56320, 12) := by
           unfold escP
           rw [if_neg (by omega), if_neg (by rw [hb26]; simp), if_neg (by omega), if_neg (by omega), if_neg (by omega)]
          rw [hq]; exact ⟨rfl, hS48.low⟩
     ·skip
      refine RL.a rfl rfl ?_
      refine RL.nil (RA.next ?_)
      refine RA.one (i := 6) (by decide +kernel) ?_
      skip
      refine RL.u (.ex (.t rfl) rfl) rfl ?_
      refine RL.nil (RA.next ?_)
      refine RA.one (i := 8) (by decide +kernel) ?_
      skip
      refine RL.a rfl rfl ?_
      refine RL.nil (RA.next ?_)
      refine RA.nil (by decide +kernel) ?_
      refine (CW.at [Y 0 (str s), Y 4 (.int .i32 (shV (byteAt s 1))), Y 5 (.bool (shIs (byteAt s 1)))] rfl ?_)
      refine CW.sr ?_
      refine RL.m rfl rfl ?_
      refine RL.nil (CW.id ?_)
      refine CW.cond rfl (fun hb30 => ?_) (fun hb30 => ?_)
      ·try simp only [zb, hb1, and_true, true_and, false_or, or_false, not_true_eq_false, not_false_eq_true] at hb30
       refine CW.sr ?_
       refine RL.m rfl rfl (RL.a rfl rfl (RL.u (.assign .c) rfl ?_))
       refine RL.nil (CW.id ?_)
       refine CW.ret (hE.r2 rfl rfl rfl ?_)
       have hq : escP s = (shV (byteAt s 1), 2) := by
        unfold escP
        rw [if_neg (by omega), if_pos hb30]
       rw [hq]; exact ⟨rfl, hS43.low⟩
      ·try simp only [zb, hb1, and_true, true_and, false_or, or_false, not_true_eq_false, not_false_eq_true] at hb30
       refine CW.skip (CW.id ?_)
       refine CW.sr ?_
       refine RL.m rfl rfl ?_
       refine RL.callE hS43 .none Tryz.call125 (.cons (.t rfl) .nil) (fun _ => (number_c s _ (hg.low hS43.low) (by first | omega | exact Int.le_trans (from_bd _ _).2 (by omega)))) rfl (fun w49 hS50 => ?_)
       refine RL.a rfl rfl ?_
       refine RL.nil (CW.at [Y 0 (str s), Y 6 (i64 (numP s))] rfl ?_)
       refine CW.seq ?_
       refine CW.block ?_
       refine CW.sr ?_
       refine RL.m rfl rfl (RL.u (.lss (.t rfl) .c) rfl (RL.m rfl rfl (RL.v (.neg rfl rfl) (.move (.t rfl)) rfl (RL.v (.neg rfl rfl) (.geq (.g rfl (fun h => h)) .c) rfl (RL.v (.neg rfl rfl) (.move (.g rfl (fun h => h))) rfl ?_)))))
       refine RL.v (.posG rfl rfl) (.move (.t rfl)) rfl (RL.v (.posG rfl rfl) (.lss (.g rfl (fun h => h)) .c) rfl (RL.v (.neg rfl rfl) (.and (.g rfl (fun h => h)) (.g rfl (fun h => h))) rfl (RL.u (.or (.t rfl) (.g rfl (fun h => h))) rfl (RL.a rfl rfl ?_))))
       refine RL.nil (CW.id ?_)
       refine CW.cond rfl (fun hb31 => ?_) (fun hb31 => ?_)
       ·try simp only [zb, hb1, hb30, and_true, true_and, false_or, or_false, not_true_eq_false, not_false_eq_true] at hb31
        refine CW.sr ?_
        refine RL.u (.assign .c) rfl (RL.u (.assign .c) rfl ?_)
        refine RL.nil (CW.id ?_)
        refine CW.ret (hE.r2 rfl rfl rfl ?_)
        have hq : escP s = (0, 0) := by
         unfold escP
         rw [if_neg (by omega), if_neg (by rw [hb30]; simp), if_pos (by omega)]
        rw [hq]; exact ⟨rfl, hS50.low⟩
       ·try simp only [zb, hb1, hb30, and_true, true_and, false_or, or_false, not_true_eq_false, not_false_eq_true] at hb31
        refine CW.sr ?_
        refine RL.m rfl rfl (RL.u (.lss (.t rfl) .c) rfl (RL.m rfl rfl (RL.v (.neg rfl rfl) (.move (.t rfl)) rfl (RL.v (.neg rfl rfl) (.geq (.g rfl (fun h => h)) .c) rfl (RL.u (.or (.t rfl) (.g rfl (fun h => h))) rfl ?_)))))
        refine RL.a rfl rfl ?_
        refine RL.nil (CW.id ?_)
        refine CW.cond rfl (fun hb32 => ?_) (fun hb32 => ?_)
        ·try simp only [zb, hb1, hb30, hb31, and_true, true_and, false_or, or_false, not_true_eq_false, not_false_eq_true] at hb32
         refine CW.sr ?_
         refine RL.m rfl rfl (RL.u (.cvtK (r := numP s) (.t rfl) Tryz.underlying3 Tryz.underlying21 (fun _ => by exact Eng.wrap_i32 (by omega))) rfl (RL.a rfl rfl (RL.u (.assign .c) rfl ?_)))
         refine RL.nil (CW.id ?_)
         refine CW.ret (hE.r2 rfl rfl rfl ?_)
         have hq : escP s = (numP s, 6) := by
          unfold escP
          rw [if_neg (by omega), if_neg (by rw [hb30]; simp), if_neg (by omega), if_pos (by omega)]
         rw [hq]; exact ⟨rfl, hS50.low⟩
        ·try simp only [zb, hb1, hb30, hb31, and_true, true_and, false_or, or_false, not_true_eq_false, not_false_eq_true] at hb32
         refine CW.skip (CW.id ?_)
         refine CW.sr ?_
         refine RL.m rfl rfl (RL.u (.slSl (.t rfl) .c Tryz.underlying9 (fun _ => by omega)) rfl ?_)
         refine RL.callE hS50 .none Tryz.call125 (.cons (.t rfl) .nil) (fun _ => (number_c (Eng.from' s 6) _ (hg.low hS50.low) (by first | omega | exact Int.le_trans (from_bd _ _).2 (by omega)))) rfl (fun w51 hS52 => ?_)
         refine RL.a rfl rfl ?_
         refine RL.nil (CW.at [Y 6 (i64 (numP s)), Y 7 (i64 (numP (Eng.from' s 6)))] rfl ?_)
         refine CW.seq ?_
         refine CW.sr ?_
         refine RL.m rfl rfl (RL.u (.lss (.t rfl) .c) rfl (RL.m rfl rfl (RL.v (.neg rfl rfl) (.move (.t rfl)) rfl (RL.v (.neg rfl rfl) (.geq (.g rfl (fun h => h)) .c) rfl (RL.u (.or (.t rfl) (.g rfl (fun h => h))) rfl ?_)))))
         refine RL.nil (CW.id ?_)
         refine CW.cond rfl (fun hb33 => ?_) (fun hb33 => ?_)
         ·try simp only [zb, hb1, hb30, hb31, hb32, and_true, true_and, false_or, or_false, not_true_eq_false, not_false_eq_true] at hb33
          refine CW.sr ?_
          refine RL.u (.assign .c) rfl (RL.u (.assign .c) rfl ?_)
          refine RL.nil (CW.id ?_)
          refine CW.ret (hE.r2 rfl rfl rfl ?_)
          have hq : escP s = (0, 0) := by
           unfold escP
           rw [if_neg (by omega), if_neg (by rw [hb30]; simp), if_neg (by omega), if_neg (by omega), if_pos (by omega)]
          rw [hq]; exact ⟨rfl, hS52.low⟩
         ·try simp only [zb, hb1, hb30, hb31, hb32, and_true, true_and, false_or, or_false, not_true_eq_false, not_false_eq_true] at hb33
          refine CW.skip (CW.id ?_)
          refine CW.sr ?_
          refine RL.m rfl rfl (RL.u (.sub (.t rfl) .c (fun _ => by omega)) rfl (RL.u (.bin (v := .int .i64 (((numP s) - 55296) * 1024)) (.t rfl) .c (fun hW w _ => ((fun _ => by simp [go_sem, binOp]; exact Eng.wrap_i64 (by omega))) hW)) rfl (RL.u (.add .c (.t rfl) (fun _ => by omega)) rfl (RL.m rfl rfl (RL.u (.add (.t rfl) (.t rfl) (fun _ => by omega)) rfl ?_)))))
          refine RL.u (.sub (.t rfl) .c (fun _ => by omega)) rfl (RL.u (.cvtK (r := ((65536 + (((numP s) - 55296) * 1024)) + (numP (Eng.from' s 6))) - 56320) (.t rfl) Tryz.underlying3 Tryz.underlying21 (fun _ => by exact Eng.wrap_i32 (by omega))) rfl (RL.a rfl rfl (RL.u (.assign .c) rfl ?_)))
          refine RL.nil (CW.id ?_)
          refine CW.ret (hE.r2 rfl rfl rfl ?_)
          have hq : escP s = (((65536 + (((numP s) - 55296) * 1024)) + (numP (Eng.from' s 6))) - 56320, 12) := by
           unfold escP
           rw [if_neg (by omega), if_neg (by rw [hb30]; simp), if_neg (by omega), if_neg (by omega), if_neg (by omega)]
          rw [hq]; exact ⟨rfl, hS52.low⟩
    ·skip
     refine RL.u (.ex (.t rfl) rfl) rfl ?_
     refine RL.nil (RA.next ?_)
     refine RA.one (i := 5) (by decide +kernel) ?_
     skip
     refine RL.u (.ex (.t rfl) rfl) rfl ?_
     refine RL.nil (RA.next ?_)
     refine RA.one (i := 7) (by decide +kernel) ?_
     skip
     refine RL.a rfl rfl ?_
     refine RL.nil (RA.next ?_)
     refine RA.one (i := 8) (by decide +kernel) ?_
     skip
     refine RL.a rfl rfl ?_
     refine RL.nil (RA.next ?_)
     refine RA.nil (by decide +kernel) ?_
     refine (CW.at [Y 0 (str s), Y 4 (.int .i32 (shV (byteAt s 1))), Y 5 (.bool (shIs (byteAt s 1)))] rfl ?_)
     refine CW.sr ?_
     refine RL.m rfl rfl ?_
     refine RL.nil (CW.id ?_)
     refine CW.cond rfl (fun hb34 => ?_) (fun hb34 => ?_)
     ·try simp only [zb, hb1, and_true, true_and, false_or, or_false, not_true_eq_false, not_false_eq_true] at hb34
      refine CW.sr ?_
      refine RL.m rfl rfl (RL.a rfl rfl (RL.u (.assign .c) rfl ?_))
      refine RL.nil (CW.id ?_)
      refine CW.ret (hE.r2 rfl rfl rfl ?_)
      have hq : escP s = (shV (byteAt s 1), 2) := by
       unfold escP
       rw [if_neg (by omega), if_pos hb34]
      rw [hq]; exact ⟨rfl, hS43.low⟩
     ·try simp only [zb, hb1, and_true, true_and, false_or, or_false, not_true_eq_false, not_false_eq_true] at hb34
      refine CW.skip (CW.id ?_)
      refine CW.sr ?_
      refine RL.m rfl rfl ?_
      refine RL.callE hS43 .none Tryz.call125 (.cons (.t rfl) .nil) (fun _ => (number_c s _ (hg.low hS43.low) (by first | omega | exact Int.le_trans (from_bd _ _).2 (by omega)))) rfl (fun w53 hS54 => ?_)
      refine RL.a rfl rfl ?_
      refine RL.nil (CW.at [Y 0 (str s), Y 6 (i64 (numP s))] rfl ?_)
      refine CW.seq ?_
      refine CW.block ?_
      refine CW.sr ?_
      refine RL.m rfl rfl (RL.u (.lss (.t rfl) .c) rfl (RL.m rfl rfl (RL.v (.neg rfl rfl) (.move (.t rfl)) rfl (RL.v (.neg rfl rfl) (.geq (.g rfl (fun h => h)) .c) rfl (RL.v (.neg rfl rfl) (.move (.g rfl (fun h => h))) rfl ?_)))))
      refine RL.v (.posG rfl rfl) (.move (.t rfl)) rfl (RL.v (.posG rfl rfl) (.lss (.g rfl (fun h => h)) .c) rfl (RL.v (.neg rfl rfl) (.and (.g rfl (fun h => h)) (.g rfl (fun h => h))) rfl (RL.u (.or (.t rfl) (.g rfl (fun h => h))) rfl (RL.a rfl rfl ?_))))
      refine RL.nil (CW.id ?_)
      refine CW.cond rfl (fun hb35 => ?_) (fun hb35 => ?_)
      ·try simp only [zb, hb1, hb34, and_true, true_and, false_or, or_false, not_true_eq_false, not_false_eq_true] at hb35
       refine CW.sr ?_
       refine RL.u (.assign .c) rfl (RL.u (.assign .c) rfl ?_)
       refine RL.nil (CW.id ?_)
       refine CW.ret (hE.r2 rfl rfl rfl ?_)
       have hq : escP s = (0, 0) := by
        unfold escP
        rw [if_neg (by omega), if_neg (by rw [hb34]; simp), if_pos (by omega)]
       rw [hq]; exact ⟨rfl, hS54.low⟩
      ·try simp only [zb, hb1, hb34, and_true, true_and, false_or, or_false, not_true_eq_false, not_false_eq_true] at hb35
       refine CW.sr ?_
       refine RL.m rfl rfl (RL.u (.lss (.t rfl) .c) rfl (RL.m rfl rfl (RL.v (.neg rfl rfl) (.move (.t rfl)) rfl (RL.v (.neg rfl rfl) (.geq (.g rfl (fun h => h)) .c) rfl (RL.u (.or (.t rfl) (.g rfl (fun h => h))) rfl ?_)))))
       refine RL.a rfl rfl ?_
       refine RL.nil (CW.id ?_)
       refine CW.cond rfl (fun hb36 => ?_) (fun hb36 => ?_)
       ·try simp only [zb, hb1, hb34, hb35, and_true, true_and, false_or, or_false, not_true_eq_false, not_false_eq_true] at hb36
        refine CW.sr ?_
        refine RL.m rfl rfl (RL.u (.cvtK (r := numP s) (.t rfl) Tryz.underlying3 Tryz.underlying21 (fun _ => by exact Eng.wrap_i32 (by omega))) rfl (RL.a rfl rfl (RL.u (.assign .c) rfl ?_)))
        refine RL.nil (CW.id ?_)
        refine CW.ret (hE.r2 rfl rfl rfl ?_)
        have hq : escP s = (numP s, 6) := by
         unfold escP
         rw [if_neg (by omega), if_neg (by rw [hb34]; simp), if_neg (by omega), if_pos (by omega)]
        rw [hq]; exact ⟨rfl, hS54.low⟩
       ·try simp only [zb, hb1, hb34, hb35, and_true, true_and, false_or, or_false, not_true_eq_false, not_false_eq_true] at hb36
        refine CW.skip (CW.id ?_)
        refine CW.sr ?_
        refine RL.m rfl rfl (RL.u (.slSl (.t rfl) .c Tryz.underlying9 (fun _ => by omega)) rfl ?_)
        refine RL.callE hS54 .none Tryz.call125 (.cons (.t rfl) .nil) (fun _ => (number_c (Eng.from' s 6) _ (hg.low hS54.low) (by first | omega | exact Int.le_trans (from_bd _ _).2 (by omega)))) rfl (fun w55 hS56 => ?_)
        refine RL.a rfl rfl ?_
        refine RL.nil (CW.at [Y 6 (i64 (numP s)), Y 7 (i64 (numP (Eng.from' s 6)))] rfl ?_)
        refine CW.seq ?_
        refine CW.sr ?_
        refine RL.m rfl rfl (RL.u (.lss (.t rfl) .c) rfl (RL.m rfl rfl (RL.v (.neg rfl rfl) (.move (.t rfl)) rfl (RL.v (.neg rfl rfl) (.geq (.g rfl (fun h => h)) .c) rfl (RL.u (.or (.t rfl) (.g rfl (fun h => h))) rfl ?_)))))
        refine RL.nil (CW.id ?_)
        refine CW.cond rfl (fun hb37 => ?_) (fun hb37 => ?_)
        ·try simp only [zb, hb1, hb34, hb35, hb36, and_true, true_and, false_or, or_false, not_true_eq_false, not_false_eq_true] at hb37
         refine CW.sr ?_
         refine RL.u (.assign .c) rfl (RL.u (.assign .c) rfl ?_)
         refine RL.nil (CW.id ?_)
         refine CW.ret (hE.r2 rfl rfl rfl ?_)
         have hq : escP s = (0, 0) := by
          unfold escP
          rw [if_neg (by omega), if_neg (by rw [hb34]; simp), if_neg (by omega), if_neg (by omega), if_pos (by omega)]
         rw [hq]; exact ⟨rfl, hS56.low⟩
        ·try simp only [zb, hb1, hb34, hb35, hb36, and_true, true_and, false_or, or_false, not_true_eq_false, not_false_eq_true] at hb37
         refine CW.skip (CW.id ?_)
         refine CW.sr ?_
         refine RL.m rfl rfl (RL.u (.sub (.t rfl) .c (fun _ => by omega)) rfl (RL.u (.bin (v := .int .i64 (((numP s) - 55296) * 1024)) (.t rfl) .c (fun hW w _ => ((fun _ => by simp [go_sem, binOp]; exact Eng.wrap_i64 (by omega))) hW)) rfl (RL.u (.add .c (.t rfl) (fun _ => by omega)) rfl (RL.m rfl rfl (RL.u (.add (.t rfl) (.t rfl) (fun _ => by omega)) rfl ?_)))))
         refine RL.u (.sub (.t rfl) .c (fun _ => by omega)) rfl (RL.u (.cvtK (r := ((65536 + (((numP s) - 55296) * 1024)) + (numP (Eng.from' s 6))) - 56320) (.t rfl) Tryz.underlying3 Tryz.underlying21 (fun _ => by exact Eng.wrap_i32 (by omega))) rfl (RL.a rfl rfl (RL.u (.assign .c) rfl ?_)))
         refine RL.nil (CW.id ?_)
         refine CW.ret (hE.r2 rfl rfl rfl ?_)
         have hq : escP s = (((65536 + (((numP s) - 55296) * 1024)) + (numP (Eng.from' s 6))) - 56320, 12) := by
          unfold escP
          rw [if_neg (by omega), if_neg (by rw [hb34]; simp), if_neg (by omega), if_neg (by omega), if_neg (by omega)]
         rw [hq]; exact ⟨rfl, hS56.low⟩

end Go.Proofs.YtjfaikgooldcbaaGreatDoor
