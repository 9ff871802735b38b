/-

-/
import Derived.Test.YtmjpjbmeamnfpaaGreatDoorZb4
import Derived.Laws.BitsLemmas
import Derived.Test.YtmjpjbmeamnfpaaGreatDoorZb3
import Derived.Test.YtmjpjbmeamnfpaaGreatDoorProg
import Derived.Test.YtmjpjbmeamnfpaaGreatDoorZb19
set_option linter.unusedVariables false
set_option linter.unusedSimpArgs false
set_option maxRecDepth 100000
namespace Go.Proofs.YtmjpjbmeamnfpaaGreatDoor
open Go.Eng

/- internal/strconv.lower -/
theorem lower_c (c : Int) (w : World) (h0 : 0 ≤ c) (h1 : c ≤ 255) :
  Calls Tryz.prog 262 [(.int .u8 c)].toArray w fun e w' => e = .returned (.int .u8 (lowV c)) ∧ w' = w := by
 refine CW.enter1 Tryz.func262 rfl Tryz.ntmps262 (Nat.le_of_ble_eq_true rfl) fun Q hE => ?_
 refine CW.weaken [0] (L' := [Y 0 (.int .u8 c)]) ?_ rfl
 refine CW.sr (RL.u (.assign .c) rfl (RL.nil (CW.id (CW.sr ?_))))
 refine RL.m rfl rfl (RL.u (.bin (v := .int .u8 (lowV c)) (.t rfl) .c (fun hW w _ => by simp [go_sem, binOp]; exact low_or (by omega) (by omega))) rfl (RL.a rfl rfl (RL.nil (CW.id ?_))))
 refine CW.ret (hE.r1 rfl rfl ?_)
 exact ⟨rfl, rfl⟩

/- internal/strconv.ParseUint -/
set_option maxHeartbeats 1000000 in
theorem pint_c (l : Str) (w : World) (hl : len l = 4) :
  Calls Tryz.prog 236 [(str l), (i64 16), (i64 16)].toArray w fun e w' => ∃ v, e = .returned v ∧ ∃ x er, (er = .nilIface ∨ ∃ u p, er = .iface u p) ∧ isNilV er = hexOk l ∧ (isNilV er = false → er = .iface 248 (i64 2)) ∧ (hexOk l = true → x = hexVal l) ∧ v = .tuple #[.int .u64 x, er] ∧ Ext w w' := by
 refine CW.enter1 Tryz.func236 rfl Tryz.ntmps236 (Nat.le_of_ble_eq_true rfl) fun Q hE => ?_
 have hil : len (ints l) = 4 := by rw [ints_len]; exact hl
 have hS : St w nM w nM [] := St.start ⟨fun _ _ _ h => by cases h⟩
 refine CW.weaken [0, 1, 2] (L' := [Y 0 (str l), Y 1 (i64 16), Y 2 (i64 16)]) ?_ rfl
 refine CW.sr (RL.u (.assign .c) rfl (RL.u (.assign .c) rfl (RL.nil (CW.id (CW.seq ?_)))))
 refine CW.sr (RL.m rfl rfl (RL.u (.seql (.t rfl) .c) rfl (RL.nil (CW.id ?_))))
 refine CW.cond rfl ?_ ?_ <;> intro hb1 <;> try simp only [zb] at hb1
 ·exfalso; rw [hb1] at hl; exact absurd hl (by decide)
 ·refine CW.skip (CW.id (CW.sr (RL.m rfl rfl (RL.u (.eql (.t rfl) .c) rfl (RL.a rfl rfl (RL.nil (CW.id ?_)))))))
  refine CW.sr (RL.m rfl rfl (RL.a rfl rfl (RL.nil (CW.id (CW.seq ?_)))))
  refine CW.block (CW.sr (RL.m rfl rfl (RL.u (.leq .c (.t rfl)) rfl (RL.m rfl rfl (RL.v (.pos rfl rfl) (.move (.t rfl)) rfl (RL.v (.pos rfl rfl) (.leq (.g rfl (fun h => h)) .c) rfl (RL.u (.and (.t rfl) (.g rfl (fun h => h))) rfl (RL.a rfl rfl (RL.nil (CW.id ?_))))))))))
  refine CW.cond rfl (fun _ => ?_) (fun h => by cases h)
  refine CW.skip (CW.id (CW.seq (CW.sr (RL.m rfl rfl (RL.u (.eql (.t rfl) .c) rfl (RL.nil (CW.id ?_)))))))
  refine CW.cond rfl (fun h => by cases h) (fun _ => ?_)
  refine CW.sr (RL.m rfl rfl (RL.u (.lss (.t rfl) .c) rfl (RL.m rfl rfl (RL.v (.neg rfl rfl) (.move (.t rfl)) rfl (RL.v (.neg rfl rfl) (.gtr (.g rfl (fun h => h)) .c) rfl (RL.u (.or (.t rfl) (.g rfl (fun h => h))) rfl (RL.nil (CW.id (CW.cond rfl (fun h => by cases h) (fun _ => ?_))))))))))
  refine CW.skip (CW.id (CW.sr (RL.u (.assign .c) rfl (RL.nil (CW.id ?_)))))
  refine CW.seq (CW.sr (RL.m rfl rfl (RL.nil (CW.id ?_))))
  refine CW.block (CW.sr (RL.u (.eql (.t rfl) .c) rfl (RL.a rfl rfl (RL.nil (CW.id ?_)))))
  refine CW.cond rfl (fun h => by cases h) (fun _ => ?_)
  refine CW.sr (RL.u (.eql (.t rfl) .c) rfl (RL.a rfl rfl (RL.nil (CW.id (CW.cond rfl (fun _ => ?_) (fun h => by cases h))))))
  refine CW.region (RL.u (.assign .c) rfl (RL.nil (CW.id (CW.sr ?_))))
  refine RL.m rfl rfl (RL.u (.cvtK (r := 16) (.t rfl) Tryz.underlying3 Tryz.underlying192 (fun _ => by exact Eng.wrap_u64 (by omega))) rfl (RL.u (.bin (v := .int .u64 65536) .c (.t rfl) (fun _ w _ => by kernel_rfl)) rfl (RL.u (.bin (v := .int .u64 65535) (.t rfl) .c (fun _ w _ => by kernel_rfl)) rfl (RL.a rfl rfl (RL.nil (CW.id ?_))))))
  refine CW.sr (RL.u (.assign .c) rfl (RL.nil (CW.id (CW.sr ?_))))
  refine RL.u (.assign .c) rfl (RL.nil (CW.id ?_))
  refine CW.seq (CW.sr (RL.m rfl rfl ?_))
  refine RL.bytes hS (.t rfl) Tryz.underlying9 Tryz.underlying110 Tryz.underlying5 ((by omega)) rfl (fun v1 w2 M3 hS4 hle5 hsl6 => ?_)
  refine RL.u (.lenT hsl6 (.t rfl) ⟨_, Tryz.underlying110⟩) rfl (RL.u (.move .c) rfl ?_)
  refine RL.nil (CW.at [Y 1 (i64 16), Y 8 (.bool false), Y 9 (str l), Y 10 (.int .u64 1152921504606846976), Y 11 (.int .u64 65535), Y 12 (.bool false), Y 13 (.int .u64 0), Y 99 v1, Y 100 (i64 (len (ints l))), Y 101 (i64 0)] rfl (CW.block ?_))
  refine CW.loop (σ := Int × Int) (fun (k, n) => [Y 1 (i64 16), Y 8 (.bool false), Y 9 (str l), Y 10 (.int .u64 1152921504606846976), Y 11 (.int .u64 65535), Y 12 (.bool false), Y 13 (.int .u64 n), Y 99 v1, Y 100 (i64 (len (ints l))), Y 101 (i64 k)]) (fun (k, n) wl => St w nM wl M3 [] ∧ Sl M3 1 (ints l).length v1 ((ints l).flatMap u8I) ∧ 0 ≤ k ∧ k ≤ 4 ∧ hexOk (Eng.sub l 0 k) = true ∧ n = hexVal (Eng.sub l 0 k)) (fun (k, n) => (4 - k).toNat) ((0, 0)) [1, 8, 9, 10, 11, 12, 13, 99, 100, 101] rfl ?_ ?_
  ·refine ⟨hS4, hsl6, ?_⟩; exact ⟨by omega, by omega, rfl, rfl⟩
  ·rintro ⟨k, n⟩ wl ⟨hS7, hsl6, hk0, hk1, hok, hn⟩
   refine CW.sr (RL.u (.lss (.t rfl) (.t rfl)) rfl (RL.nil (CW.id (CW.seq ?_))))
   refine CW.cond rfl ?_ ?_ <;> intro hb7 <;> try simp only [zb] at hb7
   ·have hq : at' (ints l) k = byteAt l k := ints_at hk0 (by omega)
    have hby := byteAt_bd l k
    have hlf := low_facts (c := at' (ints l) k) (by omega) (by omega)
    have hbd := hex_bd hl hk0 (by omega) hok
    refine CW.skip (CW.id (CW.seq (CW.block (CW.sr ?_))))
    refine RL.u (.idxT hsl6 (.t rfl) (.t rfl) Tryz.underlying110 Tryz.sizeOf5 (fun _ => by omega)) rfl (RL.u (.loadE1 (f := u8I) (i := k) (j := 0) (u := (.int .u8 (at' (ints l) k))) hS7 extEq hsl6 u8I_len (.t rfl) Tryz.isAgg5 (fun _ => by omega) rfl rfl) rfl (RL.a rfl rfl (RL.nil (CW.id ?_))))
    refine CW.sr (RL.u (.assign .c) rfl (RL.nil (CW.id (CW.seq ?_))))
    refine CW.block (CW.sr (RL.m rfl rfl (RL.u (.eql (.t rfl) .c) rfl (RL.m rfl rfl (RL.v (.pos rfl rfl) (.move (.t rfl)) rfl (RL.u (.and (.t rfl) (.g rfl (fun h => h))) rfl (RL.a rfl rfl (RL.nil (CW.id ?_)))))))))
    refine CW.cond rfl (fun h => by simp at h) (fun hb8 => ?_)
    try simp only [zb, Bool.and_false] at hb8
    refine CW.sr (RL.m rfl rfl (RL.u (.leq .c (.t rfl)) rfl (RL.m rfl rfl (RL.v (.pos rfl rfl) (.move (.t rfl)) rfl (RL.v (.pos rfl rfl) (.leq (.g rfl (fun h => h)) .c) rfl (RL.u (.and (.t rfl) (.g rfl (fun h => h))) rfl (RL.a rfl rfl (RL.nil (CW.id ?_)))))))))
    refine CW.cond rfl ?_ ?_ <;> intro hb9 <;> try simp only [zb] at hb9
    ·refine CW.region (RL.m rfl rfl (RL.u (.subK (r := (at' (ints l) k) - 48) (.t rfl) .c (fun _ => by exact Eng.wrap_u8 (by omega))) rfl (RL.a rfl rfl (RL.nil (CW.id (CW.seq ?_))))))
     refine CW.sr (RL.m rfl rfl (RL.m rfl rfl (RL.u (.cvtK (r := 16) (.t rfl) Tryz.underlying3 Tryz.underlying5 (fun _ => by exact Eng.wrap_u8 (by omega))) rfl (RL.u (.geq (.t rfl) (.t rfl)) rfl (RL.nil (CW.id ?_))))))
     refine CW.cond rfl ?_ ?_ <;> intro hb10 <;> try simp only [zb] at hb10
     ·exfalso; omega
     ·refine CW.skip (CW.id (CW.seq (CW.sr (RL.m rfl rfl (RL.m rfl rfl (RL.u (.geq (.t rfl) (.t rfl)) rfl (RL.nil (CW.id ?_))))))))
      refine CW.cond rfl ?_ ?_ <;> intro hb11 <;> try simp only [zb] at hb11
      ·exfalso; omega
      ·refine CW.skip (CW.id (CW.sr (RL.m rfl rfl (RL.m rfl rfl (RL.u (.cvtK (r := 16) (.t rfl) Tryz.underlying3 Tryz.underlying230 (fun _ => by exact Eng.wrap_u64 (by omega))) rfl (RL.u (.mulK (r := n * 16) (.t rfl) (.t rfl) (fun _ => by exact Eng.wrap_u64 (by omega))) rfl (RL.a rfl rfl (RL.nil (CW.id ?_)))))))))
       refine CW.sr (RL.m rfl rfl (RL.m rfl rfl (RL.u (.cvtK (r := (at' (ints l) k) - 48) (.t rfl) Tryz.underlying5 Tryz.underlying230 (fun _ => by exact Eng.wrap_u64 (by omega))) rfl (RL.u (.addK (r := (n * 16) + ((at' (ints l) k) - 48)) (.t rfl) (.t rfl) (fun _ => by exact Eng.wrap_u64 (by omega))) rfl (RL.a rfl rfl (RL.nil (CW.at [Y 1 (i64 16), Y 8 (.bool false), Y 9 (str l), Y 10 (.int .u64 1152921504606846976), Y 11 (.int .u64 65535), Y 12 (.bool false), Y 13 (.int .u64 (n * 16)), Y 17 (.int .u64 ((n * 16) + ((at' (ints l) k) - 48))), Y 99 v1, Y 100 (i64 (len (ints l))), Y 101 (i64 k)] rfl (CW.seq ?_))))))))
       refine CW.sr (RL.m rfl rfl (RL.m rfl rfl (RL.u (.lss (.t rfl) (.t rfl)) rfl (RL.m rfl rfl (RL.v (.neg rfl rfl) (.move (.t rfl)) rfl (RL.v (.neg rfl rfl) (.move (.t rfl)) rfl (RL.v (.neg rfl rfl) (.gtr (.g rfl (fun h => h)) (.g rfl (fun h => h))) rfl (RL.u (.or (.t rfl) (.g rfl (fun h => h))) rfl (RL.nil (CW.id ?_))))))))))
       refine CW.cond rfl ?_ ?_ <;> intro hb12 <;> try simp only [zb] at hb12
       ·exfalso; omega
       ·refine CW.skip (CW.id ?_)
        refine CW.region (RL.m rfl rfl (RL.a rfl rfl (RL.nil (CW.id ?_))))
        refine CW.region (RL.u (.add (.t rfl) .c (fun _ => by omega)) rfl (RL.m rfl rfl ?_))
        refine RL.nil fun a hs => Exists.intro ((k + 1, (n * 16) + ((at' (ints l) k) - 48))) ⟨hs.keep [1, 8, 9, 10, 11, 12, 13, 99, 100, 101], ?_, ?_⟩
        ·refine ⟨hS7, hsl6, ?_⟩
         have hx : hexI (byteAt l k) = at' (ints l) k - 48 := by rw [← hq]; exact hex_fig hb9
         have hs := hex_step (s := l) (i := 0) (by omega) hk0 (by omega) hok (by omega)
         exact ⟨by omega, by omega, hs.1, by rw [hs.2, hx, ← hn]⟩
        ·show Int.toNat _ < Int.toNat _; omega
    ·refine CW.sr (RL.m rfl rfl ?_)
     refine RL.callS .none Tryz.call262 (.cons (.t rfl) .nil) (fun _ => (lower_c (at' (ints l) k) _ (by omega) (by omega))) rfl ?_
     refine RL.u (.leq .c (.t rfl)) rfl (RL.m rfl rfl (RL.v (.pos rfl rfl) (.move (.t rfl)) rfl ?_))
     refine RL.callS (.pos rfl rfl) Tryz.call262 (.cons (.g rfl (fun h => h)) .nil) (fun hW => by simp only [zb] at hW; exact (lower_c (at' (ints l) k) _ (by omega) (by omega))) rfl ?_
     refine RL.v (.pos rfl rfl) (.leq (.g rfl (fun h => h)) .c) rfl (RL.u (.and (.t rfl) (.g rfl (fun h => h))) rfl (RL.a rfl rfl ?_))
     refine RL.nil (CW.at [Y 1 (i64 16), Y 8 (.bool false), Y 9 (str l), Y 10 (.int .u64 1152921504606846976), Y 11 (.int .u64 65535), Y 12 (.bool false), Y 13 (.int .u64 n), Y 15 (.int .u8 (at' (ints l) k)), Y 99 v1, Y 100 (i64 (len (ints l))), Y 101 (i64 k), Y 121 (.bool ((decide (97 ≤ (lowV (at' (ints l) k)))) && (decide ((lowV (at' (ints l) k)) ≤ 122))))] rfl ?_)
     refine CW.cond rfl ?_ ?_ <;> intro hb13 <;> try simp only [zb] at hb13
     ·refine CW.region (RL.m rfl rfl ?_)
      refine RL.callS .none Tryz.call262 (.cons (.t rfl) .nil) (fun _ => (lower_c (at' (ints l) k) _ (by omega) (by omega))) rfl ?_
      refine RL.u (.subK (r := (lowV (at' (ints l) k)) - 97) (.t rfl) .c (fun _ => by exact Eng.wrap_u8 (by omega))) rfl (RL.u (.addK (r := ((lowV (at' (ints l) k)) - 97) + 10) (.t rfl) .c (fun _ => by exact Eng.wrap_u8 (by omega))) rfl (RL.a rfl rfl ?_))
      refine RL.nil (CW.at [Y 1 (i64 16), Y 8 (.bool false), Y 9 (str l), Y 10 (.int .u64 1152921504606846976), Y 11 (.int .u64 65535), Y 12 (.bool false), Y 13 (.int .u64 n), Y 16 (.int .u8 (((lowV (at' (ints l) k)) - 97) + 10)), Y 99 v1, Y 100 (i64 (len (ints l))), Y 101 (i64 k)] rfl (CW.seq (CW.sr (RL.m rfl rfl (RL.m rfl rfl (RL.u (.cvtK (r := 16) (.t rfl) Tryz.underlying3 Tryz.underlying5 (fun _ => by exact Eng.wrap_u8 (by omega))) rfl (RL.u (.geq (.t rfl) (.t rfl)) rfl (RL.nil (CW.id ?_)))))))))
      refine CW.cond rfl ?_ ?_ <;> intro hb14 <;> try simp only [zb] at hb14
      ·refine CW.sr (RL.u (.iface .c Tryz.underlying248 rfl) rfl (RL.u (.assign .c) rfl (RL.a rfl rfl (RL.nil (CW.id (CW.ret (hE.r2 rfl rfl rfl ?_)))))))
       have hh : hexI (byteAt l k) < 0 := by rw [← hq]; have := (hlf.2.1 (by omega) (by omega) (by omega)).2 (by omega); omega
       have hz := hex_bad (s := l) (i := 0) (k := k) (j := 4) (by omega) (by omega) (by omega) (by omega) hh
       rw [sub_all l 4 (by omega)] at hz
       exact ⟨_, rfl, _, _, .inr ⟨_, _, rfl⟩, by rw [hz]; rfl, fun _ => rfl, fun h => (by rw [hz] at h; cases h), rfl, hS7.low⟩
      ·refine CW.skip (CW.id (CW.seq (CW.sr (RL.m rfl rfl (RL.m rfl rfl (RL.u (.geq (.t rfl) (.t rfl)) rfl (RL.nil (CW.id ?_))))))))
       refine CW.cond rfl ?_ ?_ <;> intro hb15 <;> try simp only [zb] at hb15
       ·exfalso; omega
       ·refine CW.skip (CW.id (CW.sr (RL.m rfl rfl (RL.m rfl rfl (RL.u (.cvtK (r := 16) (.t rfl) Tryz.underlying3 Tryz.underlying230 (fun _ => by exact Eng.wrap_u64 (by omega))) rfl (RL.u (.mulK (r := n * 16) (.t rfl) (.t rfl) (fun _ => by exact Eng.wrap_u64 (by omega))) rfl (RL.a rfl rfl (RL.nil (CW.id ?_)))))))))
        refine CW.sr (RL.m rfl rfl (RL.m rfl rfl (RL.u (.cvtK (r := ((lowV (at' (ints l) k)) - 97) + 10) (.t rfl) Tryz.underlying5 Tryz.underlying230 (fun _ => by exact Eng.wrap_u64 (by omega))) rfl (RL.u (.addK (r := (n * 16) + (((lowV (at' (ints l) k)) - 97) + 10)) (.t rfl) (.t rfl) (fun _ => by exact Eng.wrap_u64 (by omega))) rfl (RL.a rfl rfl (RL.nil (CW.id (CW.seq ?_))))))))
        refine CW.sr (RL.m rfl rfl (RL.m rfl rfl (RL.u (.lss (.t rfl) (.t rfl)) rfl (RL.m rfl rfl (RL.v (.neg rfl rfl) (.move (.t rfl)) rfl (RL.v (.neg rfl rfl) (.move (.t rfl)) rfl (RL.v (.neg rfl rfl) (.gtr (.g rfl (fun h => h)) (.g rfl (fun h => h))) rfl (RL.u (.or (.t rfl) (.g rfl (fun h => h))) rfl (RL.nil (CW.id ?_))))))))))
        refine CW.cond rfl ?_ ?_ <;> intro hb16 <;> try simp only [zb] at hb16
        ·exfalso; omega
        ·refine CW.skip (CW.id ?_)
         refine CW.region (RL.m rfl rfl (RL.a rfl rfl (RL.nil (CW.id ?_))))
         refine CW.region (RL.u (.add (.t rfl) .c (fun _ => by omega)) rfl (RL.m rfl rfl ?_))
         refine RL.nil fun a hs => Exists.intro ((k + 1, (n * 16) + (((lowV (at' (ints l) k)) - 97) + 10))) ⟨hs.keep [1, 8, 9, 10, 11, 12, 13, 99, 100, 101], ?_, ?_⟩
         ·refine ⟨hS7, hsl6, ?_⟩
          have hx : hexI (byteAt l k) = lowV (at' (ints l) k) - 97 + 10 := by rw [← hq]; have := (hlf.2.1 (by omega) (by omega) (by omega)).1 (by omega); omega
          have hs := hex_step (s := l) (i := 0) (by omega) hk0 (by omega) hok (by omega)
          exact ⟨by omega, by omega, hs.1, by rw [hs.2, hx, ← hn]⟩
         ·show Int.toNat _ < Int.toNat _; omega
     ·refine CW.sr (RL.u (.iface .c Tryz.underlying248 rfl) rfl (RL.u (.assign .c) rfl (RL.a rfl rfl (RL.nil (CW.id (CW.ret (hE.r2 rfl rfl rfl ?_)))))))
      have hh : hexI (byteAt l k) < 0 := by rw [← hq]; have := hlf.2.2 (by omega) (by omega); omega
      have hz := hex_bad (s := l) (i := 0) (k := k) (j := 4) (by omega) (by omega) (by omega) (by omega) hh
      rw [sub_all l 4 (by omega)] at hz
      exact ⟨_, rfl, _, _, .inr ⟨_, _, rfl⟩, by rw [hz]; rfl, fun _ => rfl, fun h => (by rw [hz] at h; cases h), rfl, hS7.low⟩
   ·refine CW.exit (CW.at [Y 9 (str l), Y 12 (.bool false), Y 13 (.int .u64 n)] rfl ?_)
    refine CW.seq (CW.sr (RL.m rfl rfl (RL.m rfl rfl (RL.v (.pos rfl rfl) (.move (.t rfl)) rfl ?_))))
    refine RL.callS (v := (.bool false)) (.pos rfl rfl) Tryz.call263 (.cons (.g rfl (fun h => by simp_all)) .nil) (fun h => by cases h) rfl ?_
    refine RL.v (.pos rfl rfl) (.not (.g rfl (fun h => by simp_all))) rfl (RL.u (.and (.t rfl) (.g rfl (fun h => by simp_all))) rfl ?_)
    refine RL.nil (CW.at [Y 13 (.int .u64 n), Y 169 (.bool false)] rfl (CW.cond rfl (fun h => by cases h) (fun _ => (CW.skip (CW.id (CW.sr ?_))))))
    refine RL.m rfl rfl (RL.a rfl rfl (RL.u (.assign .c) rfl (RL.nil (CW.id ?_))))
    refine CW.ret (hE.r2 rfl rfl rfl ?_)
    have hk : k = 4 := by omega
    rw [hk, sub_all l 4 (by omega)] at hok hn
    exact ⟨_, rfl, _, _, .inl rfl, by rw [hok]; rfl, fun h => (by cases h), fun _ => hn, rfl, hS7.low⟩

theorem toErr_c (l : Str) (er : Value) (w : World) (hg : Gl w) (hl : len l = 4) (he : er = .iface 248 (i64 2)) : Calls Tryz.prog 157 [str [80, 97, 114, 115, 101, 85, 105, 110, 116], str l, i64 16, i64 16, er].toArray w fun e w' => ∃ v, e = .returned v ∧ ∃ n, v = .iface 251 (.pointer (some ⟨n, 0, none⟩)) ∧ Ext w w' := by
  subst he
  obtain ⟨ev, h1, h2⟩ := hg.err
  exact (Tryz.strconv_toError_syntax ⟨⟨[80, 97, 114, 115, 101, 85, 105, 110, 116]⟩⟩ ⟨⟨l⟩⟩ 16 16 ev w (by show l.length ≤ _; unfold len at hl; omega) h1 h2).mono fun e w' ⟨n, h, _, _, hb⟩ => ⟨_, h, n, rfl, hb⟩
/- strconv.ParseUint -/
theorem parse16_c (l : Str) (w : World) (hg : Gl w) (hl : len l = 4) :
  Calls Tryz.prog 196 [(str l), (i64 16), (i64 16)].toArray w fun e w' => ∃ v, e = .returned v ∧ ∃ x er, (er = .nilIface ∨ ∃ u p, er = .iface u p) ∧ isNilV er = hexOk l ∧ (hexOk l = true → x = hexVal l) ∧ v = .tuple #[.int .u64 x, er] ∧ Ext w w' := by
 refine CW.enter1 Tryz.func196 rfl Tryz.ntmps196 (Nat.le_of_ble_eq_true rfl) fun Q hE => ?_
 have hS : St w nM w nM [] := St.start ⟨fun _ _ _ h => by cases h⟩
 refine CW.weaken [0, 1, 2] (L' := [Y 0 (str l), Y 1 (i64 16), Y 2 (i64 16)]) ?_ rfl
 refine CW.sr (RL.u (.assign .c) rfl (RL.u (.assign .c) rfl (RL.nil (CW.id (CW.sr ?_)))))
 refine RL.m rfl rfl (RL.m rfl rfl (RL.m rfl rfl ?_))
 refine RL.callP Tryz.call236 (.cons (.t rfl) (.cons (.t rfl) (.cons (.t rfl) .nil))) (pint_c l _ hl) rfl ?_
 rintro v3 w4 ⟨px1, er2, her2, her2n, her2i, her2v, rfl, hEer2⟩
 have hS5 := hS.ext hEer2
 refine RL.m rfl rfl (RL.u (.ex (.t rfl) rfl) rfl (RL.u (.ex (.t rfl) rfl) rfl (RL.a rfl rfl (RL.a rfl rfl ?_))))
 refine RL.nil (CW.at [Y 0 (str l), Y 1 (i64 16), Y 2 (i64 16), Y 8 (.int .u64 px1), Y 9 er2] rfl (CW.seq (CW.sr (RL.m rfl rfl (RL.u (.neNil (.t rfl) her2 (by kernel_rfl)) rfl (RL.nil (CW.id ?_)))))))
 refine CW.cond rfl ?_ ?_ <;> intro hb1 <;> try simp only [zb] at hb1
 ·refine CW.sr (RL.m rfl rfl (RL.m rfl rfl (RL.m rfl rfl (RL.m rfl rfl (RL.m rfl rfl ?_)))))
  refine RL.callP Tryz.call157 (.cons .c (.cons (.t rfl) (.cons (.t rfl) (.cons (.t rfl) (.cons (.t rfl) .nil))))) (toErr_c l er2 _ (hg.low hS5.low) hl (her2i hb1)) rfl ?_
  rintro v7 w8 ⟨nn6, rfl, hEnn6⟩
  have hS9 := hS5.ext hEnn6
  refine RL.a rfl rfl (RL.a rfl rfl ?_)
  refine RL.nil (CW.at [Y 6 (.int .u64 px1), Y 7 (.iface 251 (.pointer (some ⟨nn6, 0, none⟩)))] rfl (CW.ret (hE.r2 rfl rfl rfl ?_)))
  rw [hb1] at her2n
  exact ⟨_, rfl, _, _, .inr ⟨_, _, rfl⟩, her2n, her2v, rfl, hS9.low⟩
 ·refine CW.skip (CW.id (CW.sr (RL.m rfl rfl (RL.a rfl rfl (RL.u (.assign .c) rfl (RL.nil (CW.id ?_)))))))
  refine CW.ret (hE.r2 rfl rfl rfl ?_)
  rw [hb1] at her2n
  exact ⟨_, rfl, _, _, .inl rfl, her2n, her2v, rfl, hS5.low⟩

theorem any_hex {l : Str} (h : l.any (fun b => [43, 45, 95].contains b) = true) : hexOk l = false := by
  rw [List.any_eq_true] at h
  obtain ⟨b, hb, hc⟩ := h
  unfold hexOk
  rw [List.all_eq_false]
  refine ⟨b, hb, ?_⟩
  simp only [List.contains_cons, List.contains_nil, Bool.or_false, Bool.or_eq_true, beq_iff_eq] at hc
  rcases hc with rfl | rfl | rfl <;> decide
/- loupe/quote.number -/
theorem number_c (s : Str) (w : World) (hg : Gl w) (hb : len s ≤ 1099511627776) :
  Calls Tryz.prog 148 [(str s)].toArray w fun e w' => e = .returned (i64 (numP s)) ∧ Ext w w' := by
 refine CW.enter1 Tryz.func148 rfl Tryz.ntmps148 (Nat.le_of_ble_eq_true rfl) fun Q hE => ?_
 have hS : St w nM w nM [] := St.start ⟨fun _ _ _ h => by cases h⟩
 refine CW.weaken [0] (L' := [Y 0 (str s)]) ?_ rfl
 refine CW.sr (RL.u (.assign .c) rfl (RL.nil (CW.id (CW.seq ?_))))
 refine CW.sr (RL.m rfl rfl (RL.u (.lenS (.t rfl) Tryz.underlying9) rfl (RL.u (.lss (.t rfl) .c) rfl (RL.m rfl rfl (RL.v (.neg rfl rfl) (.move (.t rfl)) rfl ?_)))))
 refine RL.callS (.neg rfl rfl) Tryz.call77 (.cons (.g rfl (fun h => h)) (.cons .c .nil)) (fun hW => by simp only [zb] at hW; exact (hasPrefix_c s [92, 117] _)) rfl ?_
 refine RL.v (.neg rfl rfl) (.not (.g rfl (fun h => h))) rfl (RL.u (.or (.t rfl) (.g rfl (fun h => h))) rfl (RL.m rfl rfl (RL.v (.neg rfl rfl) (.move (.t rfl)) rfl (RL.v (.neg rfl rfl) (.slS (.g rfl (fun h => h)) .c .c Tryz.underlying9 (fun hW => by simp only [zb] at hW; omega)) rfl ?_))))
 refine RL.callE hS (.neg rfl rfl) Tryz.call195 (.cons (.g rfl (fun h => h)) (.cons .c .nil)) (fun hW => by simp only [zb] at hW; exact (containsAny_c (Eng.sub s 2 6) _ (by rw [sub_len (by omega) (by omega) (by omega)]; rfl))) rfl (fun w1 hS2 => ?_)
 refine RL.u (.or (.t rfl) (.g rfl (fun h => h))) rfl ?_
 refine RL.nil (CW.at [Y 0 (str s), Y 17 (.bool (((decide ((len s) < 6)) || (!(Lib.hasPrefix s [92, 117]))) || ((Eng.sub s 2 6).any (fun b => ([43, 45, 95] : Str).contains b))))] rfl ?_)
 refine CW.cond rfl ?_ ?_ <;> intro hb1 <;> try simp only [zb] at hb1
 ·refine CW.sr (RL.u (.assign .c) rfl (RL.nil (CW.id (CW.ret (hE.r1 rfl rfl ?_)))))
  have hq : numP s = -1 := by
   unfold numP
   split
   ·rfl
   ·rename_i n1; split
    ·rfl
    ·rename_i n2; split
     ·rename_i n3; exfalso; rcases hb1 with (h | h) | h
      ·exact n1 h
      ·exact n2 h
      ·rw [any_hex h] at n3; cases n3
     ·rfl
  rw [hq]; exact ⟨rfl, hS2.low⟩
 ·refine CW.skip (CW.id (CW.sr (RL.m rfl rfl (RL.u (.slS (.t rfl) .c .c Tryz.underlying9 (fun _ => by omega)) rfl ?_))))
  refine RL.callP Tryz.call196 (.cons (.t rfl) (.cons .c (.cons .c .nil))) (parse16_c (Eng.sub s 2 6) _ (hg.low hS2.low) (by rw [sub_len (by omega) (by omega) (by omega)]; rfl)) rfl ?_
  rintro v5 w6 ⟨px3, er4, her4, her4n, her4v, rfl, hEer4⟩
  have hS7 := hS2.ext hEer4
  refine RL.m rfl rfl (RL.u (.ex (.t rfl) rfl) rfl (RL.u (.ex (.t rfl) rfl) rfl (RL.a rfl rfl (RL.a rfl rfl ?_))))
  refine RL.nil (CW.at [Y 3 (.int .u64 px3), Y 4 er4] rfl (CW.seq (CW.sr (RL.m rfl rfl (RL.u (.neNil (.t rfl) her4 (by kernel_rfl)) rfl (RL.nil (CW.id ?_)))))))
  refine CW.cond rfl ?_ ?_ <;> intro hb2 <;> try simp only [zb] at hb2
  ·refine CW.sr (RL.u (.assign .c) rfl (RL.nil (CW.id (CW.ret (hE.r1 rfl rfl ?_)))))
   have hq : numP s = -1 := by
    unfold numP
    (repeat' split) <;> first | rfl | (exfalso; rename_i n3; rw [← her4n, hb2] at n3; cases n3)
   rw [hq]; exact ⟨rfl, hS7.low⟩
  ·have hk : hexOk (Eng.sub s 2 6) = true := by rw [← her4n]; simpa using hb2
   have hx := her4v hk
   have hxb := hexVal_lt (sub_len (s := s) (i := 2) (j := 6) (by omega) (by omega) (by omega)) hk
   refine CW.skip (CW.id (CW.sr (RL.m rfl rfl (RL.u (.cvtK (r := px3) (.t rfl) Tryz.underlying230 Tryz.underlying3 (fun _ => by exact Eng.wrap_i64 (by omega))) rfl (RL.a rfl rfl (RL.nil (CW.id ?_)))))))
   refine CW.ret (hE.r1 rfl rfl ?_)
   have hq : numP s = px3 := by
    unfold numP
    rw [if_neg (by omega), if_neg (by rw [hb1.1.2]; simp), if_pos hk, hx]
   rw [hq]; exact ⟨rfl, hS7.low⟩

/- loupe/quote.escape -/
theorem escape_c (s : Str) (w : World) (hg : Gl w) (hb : len s ≤ 1099511627776) :
  Calls Tryz.prog 111 [(str s)].toArray w fun e w' => e = .returned (.tuple #[(.int .i32 ((escP s).1)), (i64 ((escP s).2))]) ∧ Ext w w' := by
 refine CW.enter1 Tryz.func111 rfl Tryz.ntmps111 (Nat.le_of_ble_eq_true rfl) fun Q hE => ?_
 have h1 := numP_bd s
 have h2 := numP_bd (from' s 6)
 have h3 := byteAt_bd s 1
 have hS : St w nM w nM [] := St.start ⟨fun _ _ _ h => by cases h⟩
 refine CW.weaken [0] (L' := [Y 0 (str s)]) ?_ rfl
 refine CW.sr (RL.u (.assign .c) rfl (RL.u (.assign .c) rfl (RL.nil (CW.id (CW.seq ?_)))))
 refine CW.sr (RL.m rfl rfl (RL.u (.lenS (.t rfl) Tryz.underlying9) rfl (RL.u (.lss (.t rfl) .c) rfl (RL.nil (CW.id ?_)))))
 refine CW.cond rfl ?_ ?_ <;> intro hb1 <;> try simp only [zb, and_true, true_and, false_or, or_false, not_true_eq_false, not_false_eq_true] at hb1
 ·refine CW.sr (RL.u (.assign .c) rfl (RL.u (.assign .c) rfl (RL.nil (CW.id (CW.ret (hE.r2 rfl rfl rfl ?_))))))
  have hq : escP s = (0, 0) := by
   unfold escP
   rw [if_pos (by omega)]
  rw [hq]; exact ⟨rfl, hS.low⟩
 ·refine CW.skip (CW.id (CW.seq ?_))
  refine CW.mid (σ := Unit) (fun _ => [Y 0 (str s), Y 4 (.int .i32 (shV (byteAt s 1))), Y 5 (.bool (shIs (byteAt s 1)))]) (fun _ wm1 => St w nM wm1 nM [] ∧ True) ?_ ?_
  ·refine CW.regionA hS tryz_mixed (fun w3 hS4 => (RA.two (i := 0) (j := 1) (by decide +kernel) ?_ ?_))
   ·refine RL.callP Tryz.call147 .nil (short_c (Rs := []) hS4) rfl ?_
    rintro v6 w7 ⟨mb5, rfl, hS9⟩
    refine RL.nil (RA.next (RA.one (i := 1) (by decide +kernel) (RL.m rfl rfl (RL.nil (RA.next (RA.one (i := 2) (by decide +kernel) ?_))))))
    refine RL.u (.idxS (.t rfl) .c Tryz.underlying9 (fun _ => by omega)) rfl (RL.nil (RA.next (RA.one (i := 3) (by decide +kernel) ?_)))
    refine RL.u (.lookupOk (k := .u8) (v := (.int .i32 (shV (byteAt s 1)))) (q := shIs (byteAt s 1)) hS9 extEq (i := 0) rfl (.t rfl) (.t rfl) Tryz.underlying198 Tryz.underlying5 Tryz.zeroValue21 (short_get _).1 (short_get _).2) rfl (RL.nil (RA.next (RA.one (i := 4) (by decide +kernel) ?_)))
    refine RL.m rfl rfl (RL.nil (RA.next (RA.two (i := 5) (j := 6) (by decide +kernel) ?_ ?_)))
    ·refine RL.u (.ex (.t rfl) rfl) rfl (RL.nil (RA.next (RA.two (i := 6) (j := 7) (by decide +kernel) ?_ ?_)))
     ·refine RL.u (.ex (.t rfl) rfl) rfl (RL.nil (RA.next (RA.one (i := 7) (by decide +kernel) ?_)))
      refine RL.a rfl rfl (RL.nil (RA.next (RA.one (i := 8) (by decide +kernel) ?_)))
      refine RL.a rfl rfl (RL.nil (RA.next (RA.nil (by decide +kernel) ?_)))
      replace hS9 := hS9.erase 0 rfl
      exact  fun a hs => ⟨(), hs.keep [0, 4, 5], hS9, trivial⟩
     ·refine RL.a rfl rfl (RL.nil (RA.next (RA.one (i := 6) (by decide +kernel) ?_)))
      refine RL.u (.ex (.t rfl) rfl) rfl (RL.nil (RA.next (RA.one (i := 8) (by decide +kernel) ?_)))
      refine RL.a rfl rfl (RL.nil (RA.next (RA.nil (by decide +kernel) ?_)))
      replace hS9 := hS9.erase 0 rfl
      exact  fun a hs => ⟨(), hs.keep [0, 4, 5], hS9, trivial⟩
    ·refine RL.u (.ex (.t rfl) rfl) rfl (RL.nil (RA.next (RA.one (i := 5) (by decide +kernel) ?_)))
     refine RL.u (.ex (.t rfl) rfl) rfl (RL.nil (RA.next (RA.one (i := 7) (by decide +kernel) ?_)))
     refine RL.a rfl rfl (RL.nil (RA.next (RA.one (i := 8) (by decide +kernel) ?_)))
     refine RL.a rfl rfl (RL.nil (RA.next (RA.nil (by decide +kernel) ?_)))
     replace hS9 := hS9.erase 0 rfl
     exact  fun a hs => ⟨(), hs.keep [0, 4, 5], hS9, trivial⟩
   ·refine RL.m rfl rfl (RL.nil (RA.next (RA.two (i := 0) (j := 2) (by decide +kernel) ?_ ?_)))
    ·refine RL.callP Tryz.call147 .nil (short_c (Rs := []) hS4) rfl ?_
     rintro v12 w13 ⟨mb11, rfl, hS15⟩
     refine RL.nil (RA.next (RA.one (i := 2) (by decide +kernel) (RL.u (.idxS (.t rfl) .c Tryz.underlying9 (fun _ => by omega)) rfl (RL.nil (RA.next (RA.one (i := 3) (by decide +kernel) ?_))))))
     refine RL.u (.lookupOk (k := .u8) (v := (.int .i32 (shV (byteAt s 1)))) (q := shIs (byteAt s 1)) hS15 extEq (i := 0) rfl (.t rfl) (.t rfl) Tryz.underlying198 Tryz.underlying5 Tryz.zeroValue21 (short_get _).1 (short_get _).2) rfl (RL.nil (RA.next (RA.one (i := 4) (by decide +kernel) ?_)))
     refine RL.m rfl rfl (RL.nil (RA.next (RA.two (i := 5) (j := 6) (by decide +kernel) ?_ ?_)))
     ·refine RL.u (.ex (.t rfl) rfl) rfl (RL.nil (RA.next (RA.two (i := 6) (j := 7) (by decide +kernel) ?_ ?_)))
      ·refine RL.u (.ex (.t rfl) rfl) rfl (RL.nil (RA.next (RA.one (i := 7) (by decide +kernel) ?_)))
       refine RL.a rfl rfl (RL.nil (RA.next (RA.one (i := 8) (by decide +kernel) ?_)))
       refine RL.a rfl rfl (RL.nil (RA.next (RA.nil (by decide +kernel) ?_)))
       replace hS15 := hS15.erase 0 rfl
       exact  fun a hs => ⟨(), hs.keep [0, 4, 5], hS15, trivial⟩
      ·refine RL.a rfl rfl (RL.nil (RA.next (RA.one (i := 6) (by decide +kernel) ?_)))
       refine RL.u (.ex (.t rfl) rfl) rfl (RL.nil (RA.next (RA.one (i := 8) (by decide +kernel) ?_)))
       refine RL.a rfl rfl (RL.nil (RA.next (RA.nil (by decide +kernel) ?_)))
       replace hS15 := hS15.erase 0 rfl
       exact  fun a hs => ⟨(), hs.keep [0, 4, 5], hS15, trivial⟩
     ·refine RL.u (.ex (.t rfl) rfl) rfl (RL.nil (RA.next (RA.one (i := 5) (by decide +kernel) ?_)))
      refine RL.u (.ex (.t rfl) rfl) rfl (RL.nil (RA.next (RA.one (i := 7) (by decide +kernel) ?_)))
      refine RL.a rfl rfl (RL.nil (RA.next (RA.one (i := 8) (by decide +kernel) ?_)))
      refine RL.a rfl rfl (RL.nil (RA.next (RA.nil (by decide +kernel) ?_)))
      replace hS15 := hS15.erase 0 rfl
      exact  fun a hs => ⟨(), hs.keep [0, 4, 5], hS15, trivial⟩
    ·refine RL.u (.idxS (.t rfl) .c Tryz.underlying9 (fun _ => by omega)) rfl (RL.nil (RA.next (RA.one (i := 0) (by decide +kernel) ?_)))
     refine RL.callP Tryz.call147 .nil (short_c (Rs := []) hS4) rfl ?_
     rintro v18 w19 ⟨mb17, rfl, hS21⟩
     refine RL.nil (RA.next (RA.one (i := 3) (by decide +kernel) (RL.u (.lookupOk (k := .u8) (v := (.int .i32 (shV (byteAt s 1)))) (q := shIs (byteAt s 1)) hS21 extEq (i := 0) rfl (.t rfl) (.t rfl) Tryz.underlying198 Tryz.underlying5 Tryz.zeroValue21 (short_get _).1 (short_get _).2) rfl (RL.nil (RA.next (RA.one (i := 4) (by decide +kernel) ?_))))))
     refine RL.m rfl rfl (RL.nil (RA.next (RA.two (i := 5) (j := 6) (by decide +kernel) ?_ ?_)))
     ·refine RL.u (.ex (.t rfl) rfl) rfl (RL.nil (RA.next (RA.two (i := 6) (j := 7) (by decide +kernel) ?_ ?_)))
      ·refine RL.u (.ex (.t rfl) rfl) rfl (RL.nil (RA.next (RA.one (i := 7) (by decide +kernel) ?_)))
       refine RL.a rfl rfl (RL.nil (RA.next (RA.one (i := 8) (by decide +kernel) ?_)))
       refine RL.a rfl rfl (RL.nil (RA.next (RA.nil (by decide +kernel) ?_)))
       replace hS21 := hS21.erase 0 rfl
       exact  fun a hs => ⟨(), hs.keep [0, 4, 5], hS21, trivial⟩
      ·refine RL.a rfl rfl (RL.nil (RA.next (RA.one (i := 6) (by decide +kernel) ?_)))
       refine RL.u (.ex (.t rfl) rfl) rfl (RL.nil (RA.next (RA.one (i := 8) (by decide +kernel) ?_)))
       refine RL.a rfl rfl (RL.nil (RA.next (RA.nil (by decide +kernel) ?_)))
       replace hS21 := hS21.erase 0 rfl
       exact  fun a hs => ⟨(), hs.keep [0, 4, 5], hS21, trivial⟩
     ·refine RL.u (.ex (.t rfl) rfl) rfl (RL.nil (RA.next (RA.one (i := 5) (by decide +kernel) ?_)))
      refine RL.u (.ex (.t rfl) rfl) rfl (RL.nil (RA.next (RA.one (i := 7) (by decide +kernel) ?_)))
      refine RL.a rfl rfl (RL.nil (RA.next (RA.one (i := 8) (by decide +kernel) ?_)))
      refine RL.a rfl rfl (RL.nil (RA.next (RA.nil (by decide +kernel) ?_)))
      replace hS21 := hS21.erase 0 rfl
      exact  fun a hs => ⟨(), hs.keep [0, 4, 5], hS21, trivial⟩
  ·rintro _ wm1 ⟨hS2, -⟩
   refine CW.sr (RL.m rfl rfl (RL.nil (CW.id ?_)))
   refine CW.cond rfl ?_ ?_ <;> intro hb2 <;> try simp only [zb, hb1, and_true, true_and, false_or, or_false, not_true_eq_false, not_false_eq_true] at hb2
   ·refine CW.sr (RL.m rfl rfl (RL.a rfl rfl (RL.u (.assign .c) rfl (RL.nil (CW.id (CW.ret (hE.r2 rfl rfl rfl ?_)))))))
    have hq : escP s = (shV (byteAt s 1), 2) := by
     unfold escP
     rw [if_neg (by omega), if_pos hb2]
    rw [hq]; exact ⟨rfl, hS2.low⟩
   ·refine CW.skip (CW.id (CW.sr (RL.m rfl rfl ?_)))
    refine RL.callE hS2 .none Tryz.call148 (.cons (.t rfl) .nil) (fun _ => (number_c s _ (hg.low hS2.low) (by omega))) rfl (fun w23 hS24 => ?_)
    refine RL.a rfl rfl ?_
    refine RL.nil (CW.at [Y 0 (str s), Y 6 (i64 (numP s))] rfl (CW.seq (CW.block (CW.sr ?_))))
    refine RL.m rfl rfl (RL.u (.lss (.t rfl) .c) rfl (RL.m rfl rfl (RL.v (.neg rfl rfl) (.move (.t rfl)) rfl (RL.v (.neg rfl rfl) (.geq (.g rfl (fun h => h)) .c) rfl (RL.v (.neg rfl rfl) (.move (.g rfl (fun h => h))) rfl ?_)))))
    refine RL.v (.posG rfl rfl) (.move (.t rfl)) rfl (RL.v (.posG rfl rfl) (.lss (.g rfl (fun h => h)) .c) rfl (RL.v (.neg rfl rfl) (.and (.g rfl (fun h => h)) (.g rfl (fun h => h))) rfl (RL.u (.or (.t rfl) (.g rfl (fun h => h))) rfl (RL.a rfl rfl (RL.nil (CW.id ?_))))))
    refine CW.cond rfl ?_ ?_ <;> intro hb3 <;> try simp only [zb, hb1, hb2, and_true, true_and, false_or, or_false, not_true_eq_false, not_false_eq_true] at hb3
    ·refine CW.sr (RL.u (.assign .c) rfl (RL.u (.assign .c) rfl (RL.nil (CW.id (CW.ret (hE.r2 rfl rfl rfl ?_))))))
     have hq : escP s = (0, 0) := by
      unfold escP
      rw [if_neg (by omega), if_neg (by rw [hb2]; simp), if_pos (by omega)]
     rw [hq]; exact ⟨rfl, hS24.low⟩
    ·refine CW.sr (RL.m rfl rfl (RL.u (.lss (.t rfl) .c) rfl (RL.m rfl rfl (RL.v (.neg rfl rfl) (.move (.t rfl)) rfl (RL.v (.neg rfl rfl) (.geq (.g rfl (fun h => h)) .c) rfl (RL.u (.or (.t rfl) (.g rfl (fun h => h))) rfl (RL.a rfl rfl (RL.nil (CW.id ?_)))))))))
     refine CW.cond rfl ?_ ?_ <;> intro hb4 <;> try simp only [zb, hb1, hb2, hb3, and_true, true_and, false_or, or_false, not_true_eq_false, not_false_eq_true] at hb4
     ·refine CW.sr (RL.m rfl rfl (RL.u (.cvtK (r := numP s) (.t rfl) Tryz.underlying3 Tryz.underlying21 (fun _ => by exact Eng.wrap_i32 (by omega))) rfl (RL.a rfl rfl (RL.u (.assign .c) rfl (RL.nil (CW.id (CW.ret (hE.r2 rfl rfl rfl ?_))))))))
      have hq : escP s = (numP s, 6) := by
       unfold escP
       rw [if_neg (by omega), if_neg (by rw [hb2]; simp), if_neg (by omega), if_pos (by omega)]
      rw [hq]; exact ⟨rfl, hS24.low⟩
     ·refine CW.skip (CW.id (CW.sr (RL.m rfl rfl (RL.u (.slSl (.t rfl) .c Tryz.underlying9 (fun _ => by omega)) rfl ?_))))
      refine RL.callE hS24 .none Tryz.call148 (.cons (.t rfl) .nil) (fun _ => (number_c (Eng.from' s 6) _ (hg.low hS24.low) (by first | omega | exact Int.le_trans (from_bd _ _).2 (by omega)))) rfl (fun w25 hS26 => ?_)
      refine RL.a rfl rfl ?_
      refine RL.nil (CW.at [Y 6 (i64 (numP s)), Y 7 (i64 (numP (Eng.from' s 6)))] rfl (CW.seq (CW.sr (RL.m rfl rfl (RL.u (.lss (.t rfl) .c) rfl (RL.m rfl rfl (RL.v (.neg rfl rfl) (.move (.t rfl)) rfl (RL.v (.neg rfl rfl) (.geq (.g rfl (fun h => h)) .c) rfl (RL.u (.or (.t rfl) (.g rfl (fun h => h))) rfl (RL.nil (CW.id ?_)))))))))))
      refine CW.cond rfl ?_ ?_ <;> intro hb5 <;> try simp only [zb, hb1, hb2, hb3, hb4, and_true, true_and, false_or, or_false, not_true_eq_false, not_false_eq_true] at hb5
      ·refine CW.sr (RL.u (.assign .c) rfl (RL.u (.assign .c) rfl (RL.nil (CW.id (CW.ret (hE.r2 rfl rfl rfl ?_))))))
       have hq : escP s = (0, 0) := by
        unfold escP
        rw [if_neg (by omega), if_neg (by rw [hb2]; simp), if_neg (by omega), if_neg (by omega), if_pos (by omega)]
       rw [hq]; exact ⟨rfl, hS26.low⟩
      ·refine CW.skip (CW.id (CW.sr (RL.m rfl rfl (RL.u (.sub (.t rfl) .c (fun _ => by omega)) rfl (RL.u (.bin (v := .int .i64 (((numP s) - 55296) * 1024)) (.t rfl) .c (fun hW w _ => ((fun _ => by simp [go_sem, binOp]; exact Eng.wrap_i64 (by omega))) hW)) rfl (RL.u (.add .c (.t rfl) (fun _ => by omega)) rfl (RL.m rfl rfl (RL.u (.add (.t rfl) (.t rfl) (fun _ => by omega)) rfl (RL.u (.sub (.t rfl) .c (fun _ => by omega)) rfl (RL.u (.cvtK (r := ((65536 + (((numP s) - 55296) * 1024)) + (numP (Eng.from' s 6))) - 56320) (.t rfl) Tryz.underlying3 Tryz.underlying21 (fun _ => by exact Eng.wrap_i32 (by omega))) rfl (RL.a rfl rfl (RL.u (.assign .c) rfl (RL.nil (CW.id ?_))))))))))))))
       refine CW.ret (hE.r2 rfl rfl rfl ?_)
       have hq : escP s = (((65536 + (((numP s) - 55296) * 1024)) + (numP (Eng.from' s 6))) - 56320, 12) := by
        unfold escP
        rw [if_neg (by omega), if_neg (by rw [hb2]; simp), if_neg (by omega), if_neg (by omega), if_neg (by omega)]
       rw [hq]; exact ⟨rfl, hS26.low⟩

end Go.Proofs.YtmjpjbmeamnfpaaGreatDoor
set_option maxRecDepth 100000
namespace Go.Proofs.YtmjpjbmeamnfpaaGreatDoor
open Go.Eng

theorem acc_len {l : List Int} {r i n : Int} (h : len l ≤ 4 * i) (hn : 1 ≤ n) : len (l ++ encZ r) ≤ 4 * (i + n) := by
  have := Lib.encodeRuneZ_length r
  rw [len_app]
  have hz : len (encZ r) ≤ 4 := by unfold len encZ; omega
  omega
theorem ints_enc {l : List Int} (r : Int) (h : ints (toStr l) = l) : ints (toStr (l ++ encZ r)) = l ++ encZ r := by
  have h2 : ints (toStr (encZ r)) = encZ r := by
    unfold ints toStr
    rw [List.map_map]
    conv => rhs; rw [← List.map_id (encZ r)]
    apply List.map_congr_left
    intro x hx
    have := Lib.encodeRuneZ_byte r x hx
    simp; omega
  rw [show toStr (l ++ encZ r) = toStr l ++ toStr (encZ r) from List.map_append, ints_app, h, h2]
/- loupe/quote.Unquote -/
theorem unquote_c (s : Str) (w : World) (hg : Gl w) (hb : len s ≤ 1099511627776) :
  Calls Tryz.prog 78 [(str s)].toArray w fun e w' => e = .returned (.tuple #[(str ((unqP s).1)), (i64 ((unqP s).2.1)), (i64 ((unqP s).2.2))]) ∧ Ext w w' := by
 refine CW.enter1 Tryz.func78 rfl Tryz.ntmps78 (Nat.le_of_ble_eq_true rfl) fun Q hE => ?_
 have := len_nonneg s
 have hS : St w nM w nM [] := St.start ⟨fun _ _ _ h => by cases h⟩
 refine CW.weaken [0] (L' := [Y 0 (str s)]) ?_ rfl
 refine CW.sr (RL.u (.assign .c) rfl (RL.u (.assign .c) rfl (RL.u (.assign .c) rfl (RL.nil (CW.id (CW.seq ?_))))))
 refine CW.sr (RL.m rfl rfl ?_)
 refine RL.callS .none Tryz.call77 (.cons (.t rfl) (.cons .c .nil)) (fun _ => (hasPrefix_c s [34] _)) rfl ?_
 refine RL.u (.not (.t rfl)) rfl ?_
 refine RL.nil (CW.at [Y 0 (str s), Y 12 (.bool (!(Lib.hasPrefix s [34])))] rfl ?_)
 refine CW.cond rfl ?_ ?_ <;> intro hb1 <;> try simp only [zb] at hb1
 ·refine CW.sr (RL.u (.assign .c) rfl (RL.u (.assign .c) rfl (RL.u (.assign .c) rfl (RL.nil (CW.id (CW.ret (hE.r3 rfl rfl rfl rfl ?_)))))))
  have hq : unqP s = ([], 0, 1) := by unfold unqP; rw [if_neg (by rw [hb1]; simp)]
  rw [hq]; exact ⟨rfl, hS.low⟩
 ·refine CW.skip (CW.id (CW.sr ?_))
  refine RL.alloc hS Tryz.zeroValue163 rfl (fun w1 b2 hS3 => ?_)
  have hS4 := hS3.ownNil 5 1
  refine RL.nil (CW.id (CW.seq (CW.sr (RL.u (.assign .c) rfl (RL.nil (CW.id ?_))))))
  refine CW.block ?_
  refine CW.loop (σ := Nat × Int × Value × Value × List Int × Mem) (fun (f, i, av, vl, ll, Ml) => [Y 0 (str s), Y 5 (.pointer (some ⟨b2, 0, none⟩)), Y 6 (i64 i)]) (fun (f, i, av, vl, ll, Ml) wl => St w nM wl Ml [.own 5 1 vl ll.length (ll.flatMap u8I), .box b2 [av, vl] 163] ∧ 1 ≤ i ∧ (av = .pointer none ∨ av = selfP b2) ∧ unqGo f s i ll = unqP s ∧ len ll ≤ 4 * i ∧ (len s - i).toNat ≤ f ∧ ints (toStr ll) = ll) (fun (f, i, av, vl, ll, Ml) => (len s - i).toNat) ((s.length, 1, .pointer none, .slice none 0 0, [], nM)) [0, 5, 6] rfl ?_ ?_
  ·refine ⟨hS4, ?_⟩; exact ⟨by omega, .inl rfl, by unfold unqP; rw [if_pos hb1], by decide, by unfold len; omega, rfl⟩
  ·rintro ⟨f, i, av, vl, ll, Ml⟩ wl ⟨hS5, h0, hav, hF, hlen, hf, hB⟩
   have hrl := rlen_pos (from' s i) 0 (by omega)
   have hrb := runeAt_bd (from' s i) 0
   have heb := escP_bd (from' s i)
   have hln := len_nonneg ll
   refine CW.seq (CW.sr (RL.m rfl rfl (RL.m rfl rfl (RL.u (.lenS (.t rfl) Tryz.underlying9) rfl (RL.u (.lss (.t rfl) (.t rfl)) rfl (RL.nil (CW.id ?_)))))))
   refine CW.cond rfl ?_ ?_ <;> intro hb2 <;> try simp only [zb] at hb2
   ·refine CW.skip (CW.id (CW.block (CW.sr (RL.m rfl rfl (RL.m rfl rfl (RL.u (.slSl (.t rfl) (.t rfl) Tryz.underlying9 (fun _ => by omega)) rfl ?_))))))
    refine RL.callE hS5 .none Tryz.call106 (.cons (.t rfl) .nil) (fun _ => (decodeRune_c (Eng.from' s i) _ (hg.low hS5.low) (by rw [from_len _ _ (by omega) (by omega)]; omega))) rfl (fun w6 hS7 => ?_)
    refine RL.m rfl rfl (RL.u (.ex (.t rfl) rfl) rfl (RL.u (.ex (.t rfl) rfl) rfl (RL.a rfl rfl (RL.a rfl rfl ?_))))
    refine RL.nil (CW.at [Y 0 (str s), Y 5 (.pointer (some ⟨b2, 0, none⟩)), Y 6 (i64 i), Y 7 (.int .i32 (runeAt (Eng.from' s i) 0)), Y 8 (i64 (runeLen (Eng.from' s i) 0))] rfl (CW.sr (RL.m rfl rfl (RL.u (.eql (.t rfl) .c) rfl (RL.m rfl rfl (RL.v (.pos rfl rfl) (.move (.t rfl)) rfl (RL.v (.pos rfl rfl) (.eql (.g rfl (fun h => h)) .c) rfl (RL.u (.and (.t rfl) (.g rfl (fun h => h))) rfl (RL.a rfl rfl (RL.nil (CW.id ?_)))))))))))
    refine CW.seq (CW.block (CW.sr (RL.m rfl rfl (RL.u (.eql (.t rfl) .c) rfl (RL.a rfl rfl (RL.nil (CW.id ?_)))))))
    refine CW.cond rfl ?_ ?_ <;> intro hb3 <;> try simp only [zb] at hb3
    ·refine CW.sr ?_
     replace hS7 := (hS7.front 0 rfl rfl).front 1 rfl rfl
     refine RL.callP Tryz.call110 (.cons (.t rfl) .nil) (string_c (Rs := []) b2 av vl (toStr ll) ll hS7 (by first | assumption | exact Or.inr rfl | exact Or.inl rfl) hB.symm) rfl ?_
     rintro _ w8 ⟨rfl, hE9⟩
     have hS10 : St w nM w8 nM [] := (St.start ⟨fun _ _ _ h => by cases h⟩).ext hE9
     refine RL.m rfl rfl (RL.u (.add (.t rfl) .c (fun _ => by omega)) rfl (RL.a rfl rfl (RL.a rfl rfl (RL.u (.assign .c) rfl ?_))))
     refine RL.nil (CW.at [Y 2 (str (toStr ll)), Y 3 (i64 (i + 1)), Y 4 (i64 0)] rfl (CW.ret (hE.r3 rfl rfl rfl rfl ?_)))
     have hq : unqP s = (toStr ll, i + 1, 0) := by rw [← hF, unqGo_eq hf hb2, if_pos hb3]
     rw [hq]; exact ⟨rfl, hS10.low⟩
    ·refine CW.sr (RL.m rfl rfl (RL.u (.eql (.t rfl) .c) rfl (RL.a rfl rfl (RL.nil (CW.id ?_)))))
     refine CW.cond rfl ?_ ?_ <;> intro hb4 <;> try simp only [zb] at hb4
     ·refine CW.sr (RL.m rfl rfl (RL.m rfl rfl (RL.u (.slSl (.t rfl) (.t rfl) Tryz.underlying9 (fun _ => by omega)) rfl ?_)))
      refine RL.callE hS7 .none Tryz.call111 (.cons (.t rfl) .nil) (fun _ => (escape_c (Eng.from' s i) _ (hg.low hS7.low) (by first | omega | exact Int.le_trans (from_bd _ _).2 (by omega)))) rfl (fun w11 hS12 => ?_)
      refine RL.m rfl rfl (RL.u (.ex (.t rfl) rfl) rfl (RL.u (.ex (.t rfl) rfl) rfl (RL.a rfl rfl (RL.a rfl rfl ?_))))
      refine RL.nil (CW.at [Y 0 (str s), Y 5 (.pointer (some ⟨b2, 0, none⟩)), Y 6 (i64 i), Y 7 (.int .i32 ((escP (Eng.from' s i)).1)), Y 8 (i64 ((escP (Eng.from' s i)).2))] rfl ?_)
      refine CW.region (RL.m rfl rfl (RL.u (.eql (.t rfl) .c) rfl (RL.a rfl rfl (RL.nil (CW.id (CW.seq ?_))))))
      refine CW.sr (RL.m rfl rfl (RL.nil (CW.id ?_)))
      refine CW.cond rfl ?_ ?_ <;> intro hb5 <;> try simp only [zb] at hb5
      ·refine CW.sr (RL.m rfl rfl (RL.u (.assign .c) rfl (RL.a rfl rfl (RL.u (.assign .c) rfl (RL.nil (CW.id (CW.ret (hE.r3 rfl rfl rfl rfl ?_))))))))
       have hq : unqP s = ([], i, 1) := by rw [← hF, unqGo_eq hf hb2, if_neg hb3, if_pos hb4, if_pos hb5]
       rw [hq]; exact ⟨rfl, hS12.low⟩
      ·refine CW.skip (CW.id (CW.sr (RL.m rfl rfl ?_)))
       replace hS12 := (hS12.front 0 rfl rfl).front 1 rfl rfl
       refine RL.callP Tryz.call112 (.cons (.t rfl) (.cons (.t rfl) .nil)) (writeRune_c (Rs := []) b2 av ll ((escP (Eng.from' s i)).1) vl hS12 (by first | assumption | exact Or.inr rfl | exact Or.inl rfl) (by omega) (by omega)) rfl ?_
       rintro v14 w15 ⟨vb13, M16, rfl, hS17, hle18⟩
       refine RL.nil (CW.at [Y 0 (str s), Y 5 (.pointer (some ⟨b2, 0, none⟩)), Y 6 (i64 i), Y 8 (i64 ((escP (Eng.from' s i)).2))] rfl ?_)
       refine CW.region (RL.m rfl rfl (RL.m rfl rfl (RL.u (.add (.t rfl) (.t rfl) (fun _ => by omega)) rfl (RL.a rfl rfl ?_))))
       replace hS17 := hS17.front 1 rfl rfl
       refine RL.nil fun a hs => Exists.intro ((f - 1, i + ((escP (Eng.from' s i)).2), (selfP b2), vb13, ll ++ encZ ((escP (Eng.from' s i)).1), M16)) ⟨hs.keep [0, 5, 6], ?_, ?_⟩
       ·refine ⟨hS17, ?_⟩
        exact ⟨by omega, .inr rfl, by rw [← hF, unqGo_eq hf hb2, if_neg hb3, if_pos hb4, if_neg hb5], acc_len hlen (by omega), by omega, ints_enc _ hB⟩
       ·show Int.toNat _ < Int.toNat _; first | omega | (have hrl2 := hrl (by rw [from_len _ _ (by omega) (by omega)]; omega); omega)
     ·refine CW.sr (RL.m rfl rfl (RL.u (.lss (.t rfl) .c) rfl (RL.a rfl rfl (RL.nil (CW.id ?_)))))
      refine CW.cond rfl ?_ ?_ <;> intro hb6 <;> try simp only [zb] at hb6
      ·refine CW.region (RL.u (.assign .c) rfl (RL.nil (CW.id (CW.seq ?_))))
       refine CW.sr (RL.m rfl rfl (RL.nil (CW.id (CW.cond rfl (fun _ => ?_) (fun h => by cases h)))))
       refine CW.sr (RL.m rfl rfl (RL.u (.assign .c) rfl (RL.a rfl rfl (RL.u (.assign .c) rfl (RL.nil (CW.id (CW.ret (hE.r3 rfl rfl rfl rfl ?_))))))))
       have hq : unqP s = ([], i, 1) := by rw [← hF, unqGo_eq hf hb2, if_neg hb3, if_neg hb4, if_pos (.inl hb6)]
       rw [hq]; exact ⟨rfl, hS7.low⟩
      ·refine CW.skip (CW.id (CW.seq (CW.sr (RL.m rfl rfl (RL.nil (CW.id ?_))))))
       refine CW.cond rfl ?_ ?_ <;> intro hb8 <;> try simp only [zb] at hb8
       ·refine CW.sr (RL.m rfl rfl (RL.u (.assign .c) rfl (RL.a rfl rfl (RL.u (.assign .c) rfl (RL.nil (CW.id (CW.ret (hE.r3 rfl rfl rfl rfl ?_))))))))
        have hq : unqP s = ([], i, 1) := by rw [← hF, unqGo_eq hf hb2, if_neg hb3, if_neg hb4, if_pos (.inr hb8)]
        rw [hq]; exact ⟨rfl, hS7.low⟩
       ·refine CW.skip (CW.id (CW.sr (RL.m rfl rfl ?_)))
        replace hS7 := (hS7.front 0 rfl rfl).front 1 rfl rfl
        refine RL.callP Tryz.call112 (.cons (.t rfl) (.cons (.t rfl) .nil)) (writeRune_c (Rs := []) b2 av ll (runeAt (Eng.from' s i) 0) vl hS7 (by first | assumption | exact Or.inr rfl | exact Or.inl rfl) (by omega) (by omega)) rfl ?_
        rintro v20 w21 ⟨vb19, M22, rfl, hS23, hle24⟩
        refine RL.nil (CW.at [Y 0 (str s), Y 5 (.pointer (some ⟨b2, 0, none⟩)), Y 6 (i64 i), Y 8 (i64 (runeLen (Eng.from' s i) 0))] rfl ?_)
        refine CW.region (RL.m rfl rfl (RL.m rfl rfl (RL.u (.add (.t rfl) (.t rfl) (fun _ => by first | omega | (have hrl2 := hrl (by rw [from_len _ _ (by omega) (by omega)]; omega); rw [from_len _ _ (by omega) (by omega)] at hrl2; omega))) rfl (RL.a rfl rfl ?_))))
        replace hS23 := hS23.front 1 rfl rfl
        refine RL.nil fun a hs => Exists.intro ((f - 1, i + (runeLen (Eng.from' s i) 0), (selfP b2), vb19, ll ++ encZ (runeAt (Eng.from' s i) 0), M22)) ⟨hs.keep [0, 5, 6], ?_, ?_⟩
        ·refine ⟨hS23, ?_⟩
         have hrl2 := hrl (by rw [from_len _ _ (by omega) (by omega)]; omega)
         exact ⟨by omega, .inr rfl, by rw [← hF, unqGo_eq hf hb2, if_neg hb3, if_neg hb4, if_neg (by rintro (h | ⟨h, h2⟩) <;> omega)], acc_len hlen (by omega), by omega, ints_enc _ hB⟩
        ·show Int.toNat _ < Int.toNat _; first | omega | (have hrl2 := hrl (by rw [from_len _ _ (by omega) (by omega)]; omega); omega)
   ·refine CW.exit (CW.at [Y 0 (str s)] rfl ?_)
    refine CW.sr (RL.m rfl rfl (RL.u (.lenS (.t rfl) Tryz.underlying9) rfl (RL.u (.assign .c) rfl (RL.a rfl rfl (RL.u (.assign .c) rfl (RL.nil (CW.id (CW.ret (hE.r3 rfl rfl rfl rfl ?_)))))))))
    have hq : unqP s = ([], len s, 1) := by rw [← hF, unqGo_end hb2]
    rw [hq]; exact ⟨rfl, hS5.low⟩

end Go.Proofs.YtmjpjbmeamnfpaaGreatDoor
