/-

-/
import Derived.Test.YtjfaikgooldcbaaGreatDoorZp5
import Derived.Laws.BitsLemmas
import Derived.Test.YtjfaikgooldcbaaGreatDoorZp3
import Derived.Test.YtjfaikgooldcbaaGreatDoorProg
import Derived.Test.YtjfaikgooldcbaaGreatDoorZp12
import Derived.Test.YtjfaikgooldcbaaGreatDoorZp15
set_option linter.unusedVariables false
set_option linter.unusedSimpArgs false
namespace Go.Proofs.YtjfaikgooldcbaaGreatDoor
open Go.Eng

theorem ascii_rune {s : Str} {p : Int} (h0 : 0 ≤ p) (h1 : p < len s) (h : byteAt s p < 128) : runeAt s p = byteAt s p := (rune_low h0 h1 h).1
theorem validRune_c (r : Int) (w : World) : Calls Tryz.prog 147 [.int .i32 r].toArray w fun e w' => e = .returned (.bool (Lib.validRune r)) ∧ w' = w := Tryz.utf8_ValidRune r w
/- strings.IndexRune -/
set_option maxRecDepth 100000 in
theorem indexRune_c (r : Int) (w : World) (hr : 0 ≤ r ∧ r ≤ 1114111 ∧ (r < 55296 ∨ 57343 < r)) :
  Calls Tryz.prog 124 [(str [43, 45, 95]), (.int .i32 r)].toArray w fun e w' => e = .returned (i64 (ix3 r)) ∧ Ext w w' := by
 refine CW.enter1 Tryz.func124 rfl Tryz.ntmps124 (Nat.le_of_ble_eq_true rfl) fun Q hE => ?_
 have h3 : len ([43, 45, 95] : Str) = 3 := rfl
 have hx : 128 ≤ r → ix3 r = -1 := fun h => by unfold ix3; rw [if_neg (by omega), if_neg (by omega), if_neg (by omega)]
 have hvd : Utf8.valid r = true := by unfold Utf8.valid; simp; omega
 have hsf := fun h => runeS_facts hvd (r := r) h
 have hlb := byteAt_bd (runeS r) (len (runeS r) - 1)
 have hS : St w (fun _ _ => none) w (fun _ _ => none) [] := St.start ⟨fun _ _ _ h => by cases h⟩
 refine CW.weaken [0, 1] (L' := [Y 0 (str [43, 45, 95]), Y 1 (.int .i32 r)]) ?_ rfl
 refine CW.sr ?_
 refine RL.u (.assign .c) rfl ?_
 refine RL.nil (CW.id ?_)
 refine CW.block ?_
 refine CW.sr ?_
 refine RL.m rfl rfl (RL.u (.leq .c (.t rfl)) rfl (RL.m rfl rfl (RL.v (.pos rfl rfl) (.move (.t rfl)) rfl (RL.v (.pos rfl rfl) (.lss (.g rfl (fun h => h)) .c) rfl (RL.u (.and (.t rfl) (.g rfl (fun h => h))) rfl ?_)))))
 refine RL.a rfl rfl ?_
 refine RL.nil (CW.id ?_)
 refine CW.cond rfl (fun hb1 => ?_) (fun hb1 => ?_)
 ·try simp only [zb] at hb1
  refine CW.sr ?_
  refine RL.m rfl rfl (RL.m rfl rfl (RL.u (.cvtK (r := r) (.t rfl) Tryz.underlying21 Tryz.underlying5 (fun _ => by exact Eng.wrap_u8 (by omega))) rfl ?_))
  refine RL.callS .none Tryz.call43 (.cons (.t rfl) (.cons (.t rfl) .nil)) (fun _ => (indexByte_c [43, 45, 95] r _)) rfl ?_
  refine RL.a rfl rfl ?_
  refine RL.nil (CW.at [Y 4 (i64 (Lib.indexByte [43, 45, 95] r.toNat.toUInt8))] rfl ?_)
  refine CW.ret (hE.r1 rfl rfl ?_)
  exact ⟨by rw [ixb (by omega) (by omega)], hS.low⟩
 ·try simp only [zb] at hb1
  refine CW.sr ?_
  refine RL.m rfl rfl (RL.u (.eql (.t rfl) .c) rfl (RL.a rfl rfl ?_))
  refine RL.nil (CW.id ?_)
  refine CW.cond rfl (fun hb2 => ?_) (fun hb2 => ?_)
  ·try simp only [zb] at hb2
   refine CW.seq ?_
   refine CW.sr ?_
   refine RL.m rfl rfl ?_
   refine RL.rangeS (s := [43, 45, 95]) hS (.t rfl) Tryz.underlying9 rfl (fun w1 b2 hS3 => ?_)
   replace hS3 : St w (fun _ _ => none) w1 (fun _ _ => none) [.raw b2 (.stringIter ⟨⟨[43, 45, 95]⟩⟩ ((0 : Int)).toNat)] := hS3
   refine RL.nil (CW.id ?_)
   refine CW.block ?_
   refine CW.loop (σ := Int) (fun p => [Y 175 (.pointer (some ⟨b2, 0, none⟩))]) (fun p wl => St w (fun _ _ => none) wl (fun _ _ => none) [.raw b2 (.stringIter ⟨⟨[43, 45, 95]⟩⟩ ((p : Int)).toNat)] ∧ 0 ≤ p ∧ p ≤ 3) (fun p => (3 - p).toNat) 0 [175] rfl ?_ ?_
   ·refine ⟨hS3, ?_⟩; exact ⟨by omega, by omega⟩
   ·rintro p wl ⟨hS4, h0, h1⟩
    have hrl := rlen_pos ([43, 45, 95] : Str) p h0
    refine CW.sr ?_
    refine RL.nextS (s := [43, 45, 95]) (p := p) hS4 (i := 0) rfl (.t rfl) (by omega) rfl (fun hlt w5 hS6 => ?_) (fun hge => ?_)
    ·replace hS6 : St w (fun _ _ => none) w5 (fun _ _ => none) [.raw b2 (.stringIter ⟨⟨[43, 45, 95]⟩⟩ ((p + runeLen [43, 45, 95] p : Int)).toNat)] := hS6
     refine RL.u (.ex (.t rfl) rfl) rfl ?_
     refine RL.nil (CW.id ?_)
     refine CW.seq ?_
     refine CW.cond rfl (fun _ => ?_) (fun h => by cases h)
     refine CW.skip (CW.id ?_)
     refine CW.block ?_
     refine CW.sr ?_
     refine RL.u (.ex (.t rfl) rfl) rfl (RL.u (.ex (.t rfl) rfl) rfl (RL.a rfl rfl (RL.a rfl rfl ?_)))
     refine RL.nil (CW.id ?_)
     refine CW.sr ?_
     refine RL.m rfl rfl (RL.u (.eql (.t rfl) .c) rfl ?_)
     refine RL.nil (CW.id ?_)
     refine CW.cond rfl (fun hb4 => ?_) (fun hb4 => ?_)
     ·try simp only [zb] at hb4
      refine CW.sr ?_
      refine RL.m rfl rfl (RL.a rfl rfl ?_)
      refine RL.nil (CW.id ?_)
      refine CW.ret (hE.r1 rfl rfl ?_)
      exfalso; have hlow := sign_byte p; have hra := ascii_rune (s := [43, 45, 95]) h0 hlt hlow; omega
     ·try simp only [zb] at hb4
      refine CW.skip fun a hs => Exists.intro (p + runeLen [43, 45, 95] p) ⟨hs.keep [175], ?_, ?_⟩
      ·refine ⟨hS6, ?_⟩
       exact ⟨by omega, by omega⟩
      ·show Int.toNat _ < Int.toNat _; omega
    ·skip
     refine RL.u (.ex (.t rfl) rfl) rfl ?_
     refine RL.nil (CW.id ?_)
     refine CW.seq ?_
     refine CW.cond rfl (fun h => by cases h) (fun _ => ?_)
     refine CW.exit (CW.at [] rfl ?_)
     refine CW.sr ?_
     refine RL.u (.assign .c) rfl ?_
     refine RL.nil (CW.id ?_)
     refine CW.ret (hE.r1 rfl rfl ?_)
     exact ⟨by rw [hx (by omega)], hS4.low⟩
  ·try simp only [zb] at hb2
   refine CW.sr ?_
   refine RL.m rfl rfl ?_
   refine RL.callS .none Tryz.call147 (.cons (.t rfl) .nil) (fun _ => (validRune_c r _)) rfl ?_
   refine RL.u (.not (.t rfl)) rfl (RL.a rfl rfl ?_)
   refine RL.nil (CW.at [Y 0 (str [43, 45, 95]), Y 1 (.int .i32 r), Y 4 (i64 0), Y 183 (.bool (!(Lib.validRune r)))] rfl ?_)
   refine CW.cond rfl (fun hb6 => ?_) (fun hb6 => ?_)
   ·try simp only [zb] at hb6
    refine CW.sr ?_
    refine RL.u (.assign .c) rfl ?_
    refine RL.nil (CW.id ?_)
    refine CW.ret (hE.r1 rfl rfl ?_)
    exfalso; unfold Lib.validRune at hb6; simp at hb6; omega
   ·try simp only [zb] at hb6
    refine CW.scope ?_
    refine CW.sr ?_
    refine RL.m rfl rfl (RL.u (.rune2s (.t rfl) Tryz.underlying21 Tryz.underlying9) rfl (RL.a rfl rfl ?_))
    refine RL.nil (CW.id ?_)
    refine CW.sr ?_
    refine RL.m rfl rfl (RL.u (.lenS (.t rfl) Tryz.underlying9) rfl (RL.u (.sub (.t rfl) .c (fun _ => by omega)) rfl (RL.a rfl rfl ?_)))
    refine RL.nil (CW.id ?_)
    refine CW.sr ?_
    refine RL.m rfl rfl (RL.a rfl rfl ?_)
    refine RL.nil (CW.id ?_)
    refine CW.sr ?_
    refine RL.u (.assign .c) rfl ?_
    refine RL.nil (CW.id ?_)
    refine CW.seq ?_
    refine CW.block ?_
    refine CW.unroll 1 ?_
    refine CW.seq ?_
    refine CW.sr ?_
    refine RL.m rfl rfl (RL.m rfl rfl (RL.u (.lenS (.t rfl) Tryz.underlying9) rfl (RL.u (.lss (.t rfl) (.t rfl)) rfl ?_)))
    refine RL.nil (CW.id ?_)
    refine CW.cond rfl (fun hb7 => ?_) (fun hb7 => ?_)
    ·try simp only [zb] at hb7
     refine CW.skip (CW.id ?_)
     refine CW.block ?_
     refine CW.scope ?_
     refine CW.seq ?_
     refine CW.seq ?_
     refine CW.regionD hS tryz_mixed (by decide +kernel) ?_
     refine RQ.v .none (.move (.t rfl)) rfl ?_
     refine RQ.v .none (.move (.t rfl)) rfl ?_
     refine RQ.v .none (.idxS (.t rfl) (.t rfl) Tryz.underlying9 (fun _ => by omega)) rfl ?_
     refine RQ.v .none (.move (.t rfl)) rfl ?_
     refine RQ.v .none (.move (.t rfl)) rfl ?_
     refine RQ.v .none (.idxS (.t rfl) (.t rfl) Tryz.underlying9 (fun _ => by omega)) rfl ?_
     refine RQ.v .none (.neq (.t rfl) (.t rfl)) rfl ?_
     refine RQ.nil (fun a hs w7 hS8 => CW.at [Y 0 (str [43, 45, 95]), Y 1 (.int .i32 r), Y 4 (i64 0), Y 7 (str (runeS r)), Y 8 (i64 ((len (runeS r)) - 1)), Y 9 (i64 ((len (runeS r)) - 1)), Y 10 (i64 0), Y 33 (.bool ((byteAt [43, 45, 95] ((len (runeS r)) - 1)) != (byteAt (runeS r) ((len (runeS r)) - 1))))] rfl ?_ a hs)
     refine CW.cond rfl (fun hb8 => ?_) (fun hb8 => ?_)
     ·try simp only [zb] at hb8
      refine CW.seq ?_
      refine CW.regionD hS8 tryz_mixed (by decide +kernel) ?_
      refine RQ.v .none (.move (.t rfl)) rfl ?_
      refine RQ.v .none (.move (.t rfl)) rfl ?_
      refine RQ.v .none (.add (.t rfl) .c (fun _ => by omega)) rfl ?_
      refine RQ.v .none (.slSl (.t rfl) (.t rfl) Tryz.underlying9 (fun _ => by omega)) rfl ?_
      refine RQ.v .none (.move (.t rfl)) rfl ?_
      refine RQ.v .none (.move (.t rfl)) rfl ?_
      refine RQ.v .none (.idxS (.t rfl) (.t rfl) Tryz.underlying9 (fun _ => by omega)) rfl ?_
      refine RQ.call .none Tryz.call43 (.cons (.t rfl) (.cons (.t rfl) .nil)) (fun _ => (fun w2 hw2 => ((indexByte_c (Eng.from' [43, 45, 95] (((len (runeS r)) - 1) + 1)) (byteAt (runeS r) ((len (runeS r)) - 1)) _)).mono (fun e w3 h3 => ⟨h3.1, h3.2 ▸ hw2⟩))) rfl ?_
      refine RQ.v .none (.assign (.t rfl)) rfl ?_
      refine RQ.nil (fun a hs w9 hS10 => CW.at [Y 0 (str [43, 45, 95]), Y 1 (.int .i32 r), Y 4 (i64 0), Y 7 (str (runeS r)), Y 8 (i64 ((len (runeS r)) - 1)), Y 9 (i64 ((len (runeS r)) - 1)), Y 10 (i64 0), Y 11 (i64 (Lib.indexByte (Eng.from' [43, 45, 95] (((len (runeS r)) - 1) + 1)) (byteAt (runeS r) ((len (runeS r)) - 1)).toNat.toUInt8))] rfl ?_ a hs)
      refine CW.seq ?_
      refine CW.sr ?_
      refine RL.m rfl rfl (RL.u (.lss (.t rfl) .c) rfl ?_)
      refine RL.nil (CW.id ?_)
      refine CW.cond rfl (fun hb9 => ?_) (fun hb9 => ?_)
      ·try simp only [zb] at hb9
       refine CW.sr ?_
       refine RL.u (.assign .c) rfl ?_
       refine RL.nil (CW.id ?_)
       refine CW.ret (hE.r1 rfl rfl ?_)
       exact ⟨by rw [hx (by omega)], hS10.low⟩
      ·try simp only [zb] at hb9
       exfalso; have hd2 := (hsf (by omega)).2.2; have hd1 := ix_high (signs_low (len (runeS r) - 1 + 1)) hd2 hlb.2; omega
     ·try simp only [zb] at hb8
      exfalso; have hd1 := sign_byte (len (runeS r) - 1); have hd2 := (hsf (by omega)).2.2; omega
    ·try simp only [zb] at hb7
     refine CW.exit (CW.at [] rfl ?_)
     refine CW.seq ?_
     refine CW.sr ?_
     refine RL.u (.assign .c) rfl ?_
     refine RL.nil (CW.id ?_)
     refine CW.ret (hE.r1 rfl rfl ?_)
     exact ⟨by rw [hx (by omega)], hS.low⟩

/- strings.shouldUseASCIISet -/
set_option maxRecDepth 100000 in
theorem ascSet_c (n : Int) (w : World)  :
  Calls Tryz.prog 189 [(i64 n)].toArray w fun e w' => e = .returned (.bool (decide (8 < n))) ∧ w' = w := by
 refine CW.enter1 Tryz.func189 rfl Tryz.ntmps189 (Nat.le_of_ble_eq_true rfl) fun Q hE => ?_
 refine CW.weaken [0] (L' := [Y 0 (i64 n)]) ?_ rfl
 refine CW.sr ?_
 refine RL.u (.assign .c) rfl ?_
 refine RL.nil (CW.id ?_)
 refine CW.sr ?_
 refine RL.m rfl rfl (RL.u (.gtr (.t rfl) .c) rfl (RL.a rfl rfl ?_))
 refine RL.nil (CW.id ?_)
 refine CW.ret (hE.r1 rfl rfl ?_)
 exact ⟨rfl, rfl⟩

/- strings.IndexAny -/
set_option maxRecDepth 100000 in
theorem indexAny_c (l : Str) (w : World) (hl : len l ≤ 8) :
  Calls Tryz.prog 170 [(str l), (str [43, 45, 95])].toArray w fun e w' => ∃ v, e = .returned v ∧ ∃ x, (0 ≤ x ↔ l.any (fun b => ([43, 45, 95] : Str).contains b) = true) ∧ v = i64 x ∧ Ext w w' := by
 refine CW.enter1 Tryz.func170 rfl Tryz.ntmps170 (Nat.le_of_ble_eq_true rfl) fun Q hE => ?_
 have h3 : len ([43, 45, 95] : Str) = 3 := rfl
 have := len_nonneg l
 have hS : St w (fun _ _ => none) w (fun _ _ => none) [] := St.start ⟨fun _ _ _ h => by cases h⟩
 refine CW.weaken [0, 1] (L' := [Y 0 (str l), Y 1 (str [43, 45, 95])]) ?_ rfl
 refine CW.sr ?_
 refine RL.u (.assign .c) rfl ?_
 refine RL.nil (CW.id ?_)
 refine CW.seq ?_
 refine CW.sr ?_
 refine RL.m rfl rfl (RL.u (.seql (.t rfl) .c) rfl ?_)
 refine RL.nil (CW.id ?_)
 refine CW.cond rfl (fun hb1 => ?_) (fun hb1 => ?_)
 ·try simp only [zb] at hb1
  exfalso; simp at hb1
 ·try simp only [zb] at hb1
  refine CW.skip (CW.id ?_)
  refine CW.seq ?_
  refine CW.sr ?_
  refine RL.m rfl rfl (RL.u (.lenS (.t rfl) Tryz.underlying9) rfl (RL.u (.eql (.t rfl) .c) rfl ?_))
  refine RL.nil (CW.id ?_)
  refine CW.cond rfl (fun hb2 => ?_) (fun hb2 => ?_)
  ·try simp only [zb] at hb2
   exfalso; omega
  ·try simp only [zb] at hb2
   refine CW.skip (CW.id ?_)
   refine CW.seq ?_
   refine CW.sr ?_
   refine RL.m rfl rfl (RL.u (.lenS (.t rfl) Tryz.underlying9) rfl ?_)
   refine RL.callS .none Tryz.call189 (.cons (.t rfl) .nil) (fun _ => (ascSet_c (len l) _)) rfl ?_
   refine RL.nil (CW.at [Y 0 (str l), Y 1 (str [43, 45, 95]), Y 26 (.bool (decide (8 < (len l))))] rfl ?_)
   refine CW.cond rfl (fun hb3 => ?_) (fun hb3 => ?_)
   ·try simp only [zb] at hb3
    exfalso; omega
   ·try simp only [zb] at hb3
    refine CW.skip (CW.id ?_)
    refine CW.seq ?_
    refine CW.sr ?_
    refine RL.m rfl rfl ?_
    refine RL.rangeS (s := l) hS (.t rfl) Tryz.underlying9 rfl (fun w1 b2 hS3 => ?_)
    replace hS3 : St w (fun _ _ => none) w1 (fun _ _ => none) [.raw b2 (.stringIter ⟨⟨l⟩⟩ ((0 : Int)).toNat)] := hS3
    refine RL.nil (CW.id ?_)
    refine CW.block ?_
    refine CW.loop (σ := Int) (fun p => [Y 1 (str [43, 45, 95]), Y 45 (.pointer (some ⟨b2, 0, none⟩))]) (fun p wl => St w (fun _ _ => none) wl (fun _ _ => none) [.raw b2 (.stringIter ⟨⟨l⟩⟩ ((p : Int)).toNat)] ∧ 0 ≤ p ∧ p ≤ len l ∧ NoSign l p) (fun p => (len l - p).toNat) 0 [1, 45] rfl ?_ ?_
    ·refine ⟨hS3, ?_⟩; exact ⟨by omega, by omega, fun j h0 h1 => by omega⟩
    ·rintro p wl ⟨hS4, h0, h1, hN⟩
     have hrl := rlen_pos l p h0
     have hrb := runeAt_bd l p
     have hrv := runeAt_valid l p
     refine CW.sr ?_
     refine RL.nextS (s := l) (p := p) hS4 (i := 0) rfl (.t rfl) (by omega) rfl (fun hlt w5 hS6 => ?_) (fun hge => ?_)
     ·replace hS6 : St w (fun _ _ => none) w5 (fun _ _ => none) [.raw b2 (.stringIter ⟨⟨l⟩⟩ ((p + runeLen l p : Int)).toNat)] := hS6
      refine RL.u (.ex (.t rfl) rfl) rfl ?_
      refine RL.nil (CW.id ?_)
      refine CW.seq ?_
      refine CW.cond rfl (fun _ => ?_) (fun h => by cases h)
      refine CW.skip (CW.id ?_)
      refine CW.block ?_
      refine CW.sr ?_
      refine RL.u (.ex (.t rfl) rfl) rfl (RL.u (.ex (.t rfl) rfl) rfl (RL.a rfl rfl (RL.a rfl rfl ?_)))
      refine RL.nil (CW.id ?_)
      refine CW.sr ?_
      refine RL.m rfl rfl (RL.m rfl rfl ?_)
      refine RL.callE hS6 .none Tryz.call124 (.cons (.t rfl) (.cons (.t rfl) .nil)) (fun _ => (indexRune_c (runeAt l p) _ (by first | assumption | omega))) rfl (fun w7 hS8 => ?_)
      refine RL.u (.geq (.t rfl) .c) rfl ?_
      refine RL.nil (CW.at [Y 1 (str [43, 45, 95]), Y 9 (i64 p), Y 45 (.pointer (some ⟨b2, 0, none⟩)), Y 53 (.bool (decide (0 ≤ (ix3 (runeAt l p)))))] rfl ?_)
      refine CW.cond rfl (fun hb5 => ?_) (fun hb5 => ?_)
      ·try simp only [zb] at hb5
       refine CW.sr ?_
       refine RL.m rfl rfl (RL.a rfl rfl ?_)
       refine RL.nil (CW.id ?_)
       refine CW.ret (hE.r1 rfl rfl ?_)
       have hf := sign_found h0 hlt (by omega)
       exact ⟨_, rfl, _, ⟨fun _ => hf, fun _ => h0⟩, rfl, hS8.low⟩
      ·try simp only [zb] at hb5
       refine CW.skip fun a hs => Exists.intro (p + runeLen l p) ⟨hs.keep [1, 45], ?_, ?_⟩
       ·refine ⟨hS8, ?_⟩
        exact ⟨by omega, by omega, hN.step h0 hlt (by omega)⟩
       ·show Int.toNat _ < Int.toNat _; omega
     ·skip
      refine RL.u (.ex (.t rfl) rfl) rfl ?_
      refine RL.nil (CW.id ?_)
      refine CW.seq ?_
      refine CW.cond rfl (fun h => by cases h) (fun _ => ?_)
      refine CW.exit (CW.at [] rfl ?_)
      refine CW.sr ?_
      refine RL.u (.assign .c) rfl ?_
      refine RL.nil (CW.id ?_)
      refine CW.ret (hE.r1 rfl rfl ?_)
      have hf := hN.none' (by omega)
      exact ⟨_, rfl, _, ⟨fun h => absurd h (by decide), fun h => by rw [hf] at h; cases h⟩, rfl, hS4.low⟩

/- strings.ContainsAny -/
set_option maxRecDepth 100000 in
theorem containsAny_c (l : Str) (w : World) (hl : len l = 4) :
  Calls Tryz.prog 150 [(str l), (str [43, 45, 95])].toArray w fun e w' => e = .returned (.bool (l.any (fun b => ([43, 45, 95] : Str).contains b))) ∧ Ext w w' := by
 refine CW.enter1 Tryz.func150 rfl Tryz.ntmps150 (Nat.le_of_ble_eq_true rfl) fun Q hE => ?_
 have hS : St w (fun _ _ => none) w (fun _ _ => none) [] := St.start ⟨fun _ _ _ h => by cases h⟩
 refine CW.weaken [0, 1] (L' := [Y 0 (str l), Y 1 (str [43, 45, 95])]) ?_ rfl
 refine CW.sr ?_
 refine RL.u (.assign .c) rfl ?_
 refine RL.nil (CW.id ?_)
 refine CW.sr ?_
 refine RL.m rfl rfl (RL.m rfl rfl ?_)
 refine RL.callP Tryz.call170 (.cons (.t rfl) (.cons (.t rfl) .nil)) (indexAny_c l _ (by omega)) rfl ?_
 rintro v2 w3 ⟨ix1, hix1, rfl, hEix1⟩
 have hS4 := hS.ext hEix1
 replace hS4 : St w (fun _ _ => none) w3 (fun _ _ => none) [] := hS4
 refine RL.u (.geq (.t rfl) .c) rfl (RL.a rfl rfl ?_)
 refine RL.nil (CW.at [Y 4 (.bool (decide (0 ≤ ix1)))] rfl ?_)
 refine CW.ret (hE.r1 rfl rfl ?_)
 have hq : decide (0 ≤ ix1) = l.any (fun b => ([43, 45, 95] : Str).contains b) := by rw [Bool.eq_iff_iff, decide_eq_true_eq]; exact hix1
 rw [← hq]; exact ⟨rfl, hS4.low⟩

end Go.Proofs.YtjfaikgooldcbaaGreatDoor
