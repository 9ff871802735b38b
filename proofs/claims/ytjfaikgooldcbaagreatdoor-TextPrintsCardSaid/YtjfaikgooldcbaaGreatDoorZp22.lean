/-

-/
import Derived.Test.YtjfaikgooldcbaaGreatDoorZp5
import Derived.Laws.BitsLemmas
import Derived.Test.YtjfaikgooldcbaaGreatDoorZp3
import Derived.Test.YtjfaikgooldcbaaGreatDoorProg
import Derived.Test.YtjfaikgooldcbaaGreatDoorZp20
import Derived.Test.YtjfaikgooldcbaaGreatDoorZp19
import Derived.Test.YtjfaikgooldcbaaGreatDoorZp21
set_option linter.unusedVariables false
set_option linter.unusedSimpArgs false
namespace Go.Proofs.YtjfaikgooldcbaaGreatDoor
open Go.Eng

/-- What object does, given so much fuel. -/
def ObjOK (w : World) (M0 : Mem) (s : Str) (pb : Nat) (Fu : Nat) : Prop := ∀ {Rs : List HO} {wv : World} {M : Mem} (i d : Int), St w M0 wv M (.box pb [str s, i64 (i)] 55 :: Rs) → 0 ≤ i → i < len s → (0 ≤ d ∧ d ≤ 900) → 2 * (len s - i) ≤ Fu →
    Calls Tryz.prog 46 [.pointer (some ⟨pb, 0, none⟩), i64 d].toArray wv (PPost w M0 M Rs 51 (fun x j v M' w' => ∃ a c, v = .slice a x.length c ∧ i + 1 ≤ j ∧ j ≤ len s ∧ len x ≤ j - i ∧ Sl M' 6 x.length (.slice a x.length c) (x.flatMap Nd.cells) ∧ St w M0 w' M' (.box pb [str s, i64 (j)] 55 :: Rs)) (mapR objV (partsT s i [125] [] (pairsT Fu s d))))
/- (*loupe/text.parser).value -/
set_option maxRecDepth 100000 in
theorem value_c {w wv : World} {M0 M : Mem} {Rs : List HO} (s : Str) (i d : Int) (pb : Nat) (f : Nat) (hS : St w M0 wv M (.box pb [(str s), (i64 i)] 55 :: Rs)) (h0 : 0 ≤ i) (h1 : i ≤ len s) (hb : len s ≤ 1099511627776) (hg : Gl w) (hd : 0 ≤ d ∧ d ≤ 1000) (hf : 2 * (len s - i) ≤ f) (hval : ∀ f2, f2 < f → ValOK w M0 s pb f2) (hobj : ObjOK w M0 s pb f) :
  Calls Tryz.prog 27 [(.pointer (some ⟨pb, 0, none⟩)), (i64 d)].toArray wv fun e w' => PPost w M0 M Rs 51 (fun x j v M' w' => ∃ a c, v = .slice a x.length c ∧ i + 1 ≤ j ∧ j ≤ len s ∧ len x ≤ j - i ∧ Sl M' 6 x.length (.slice a x.length c) (x.flatMap Nd.cells) ∧ St w M0 w' M' (.box pb [str s, i64 j] 55 :: Rs)) (valT (f + 1) s i d) e w' := by
 refine CW.enter1 Tryz.func27 rfl Tryz.ntmps27 (Nat.le_of_ble_eq_true rfl) fun Q hE => ?_
 have hw3 := words_len
 have hbd := byteAt_bd s i
 have hwl : len ([[110, 117, 108, 108], [102, 97, 108, 115, 101], [116, 114, 117, 101]] : List Str) = 3 := rfl
 refine CW.weaken [0, 1] (L' := [Y 0 (.pointer (some ⟨pb, 0, none⟩)), Y 1 (i64 d)]) ?_ rfl
 refine CW.sr ?_
 have hS1 := hS.ownNil 38 6
 replace hS1 : St w M0 wv M (.own 38 6 (.slice none 0 0) (([] : List Nd)).length ((([] : List Nd)).flatMap Nd.cells) :: .box pb [(str s), (i64 i)] 55 :: Rs) := hS1
 refine RL.u (.assign .c) rfl ?_
 refine RL.nil (CW.id ?_)
 refine CW.seq ?_
 refine CW.sr ?_
 refine RL.buildSlice (n := 3) (sz := 1) (e := 9) (vs := [(0, (str [110, 117, 108, 108])), (1, (str [102, 97, 108, 115, 101])), (2, (str [116, 114, 117, 101]))]) (cs := [(str [110, 117, 108, 108]), (str [102, 97, 108, 115, 101]), (str [116, 114, 117, 101])]) hS1 (.cons .c (.cons .c (.cons .c .nil))) rfl rfl (fun w => by kernel_rfl) rfl (fun v2 w3 M4 hS5 hle6 => ?_)
 replace hS5 : St w M0 w3 M4 (.own 9 1 v2 (([[110, 117, 108, 108], [102, 97, 108, 115, 101], [116, 114, 117, 101]] : List Str)).length ((([[110, 117, 108, 108], [102, 97, 108, 115, 101], [116, 114, 117, 101]] : List Str)).flatMap strC) :: .own 38 6 (.slice none 0 0) (([] : List Nd)).length ((([] : List Nd)).flatMap Nd.cells) :: .box pb [(str s), (i64 i)] 55 :: Rs) := hS5
 refine RL.u (.lenT (hS5.sl (i := 0) rfl) (.t rfl) ⟨_, Tryz.underlying46⟩) rfl (RL.u (.move .c) rfl ?_)
 refine RL.nil (CW.id ?_)
 refine CW.block ?_
 refine CW.loop (σ := Int) (fun k => [Y 0 (.pointer (some ⟨pb, 0, none⟩)), Y 1 (i64 d), Y 8 v2, Y 9 (i64 (len (([[110, 117, 108, 108], [102, 97, 108, 115, 101], [116, 114, 117, 101]] : List Str)))), Y 10 (i64 k)]) (fun k wl => St w M0 wl M4 (.own 9 1 v2 (([[110, 117, 108, 108], [102, 97, 108, 115, 101], [116, 114, 117, 101]] : List Str)).length ((([[110, 117, 108, 108], [102, 97, 108, 115, 101], [116, 114, 117, 101]] : List Str)).flatMap strC) :: .own 38 6 (.slice none 0 0) (([] : List Nd)).length ((([] : List Nd)).flatMap Nd.cells) :: .box pb [(str s), (i64 i)] 55 :: Rs) ∧ 0 ≤ k ∧ k ≤ 3 ∧ NoW s i k) (fun k => (3 - k).toNat) 0 [0, 1, 8, 9, 10] rfl ?_ ?_
 ·refine ⟨hS5, ?_⟩; exact ⟨by omega, by omega, fun m h0 h1 => by omega⟩
 ·rintro k wl ⟨hS7, hk0, hk1, hno⟩
  refine CW.sr ?_
  refine RL.u (.lss (.t rfl) (.t rfl)) rfl ?_
  refine RL.nil (CW.id ?_)
  refine CW.seq ?_
  refine CW.cond rfl (fun hb1 => ?_) (fun hb1 => ?_)
  ·try simp only [zb] at hb1
   refine CW.skip (CW.id ?_)
   refine CW.seq ?_
   refine CW.block ?_
   refine CW.sr ?_
   refine RL.m rfl rfl (RL.u (.idxT (hS7.sl (i := 0) rfl) (.t rfl) (.t rfl) Tryz.underlying46 Tryz.sizeOf9 (fun _ => by omega)) rfl (RL.u (.loadE1 (f := strC) (i := k) (j := 0) (u := (str (at' (([[110, 117, 108, 108], [102, 97, 108, 115, 101], [116, 114, 117, 101]] : List Str)) k))) hS7 extEq (hS7.sl (i := 0) rfl) strC_len (.t rfl) Tryz.isAgg9 (fun _ => by omega) rfl rfl) rfl (RL.a rfl rfl (RL.a rfl rfl ?_))))
   refine RL.nil (CW.id ?_)
   refine CW.sr ?_
   refine RL.m rfl rfl (RL.m rfl rfl ?_)
   replace hS7 : St w M0 wl M4 (.box pb [(str s), (i64 i)] 55 :: .own 9 1 v2 (([[110, 117, 108, 108], [102, 97, 108, 115, 101], [116, 114, 117, 101]] : List Str)).length ((([[110, 117, 108, 108], [102, 97, 108, 115, 101], [116, 114, 117, 101]] : List Str)).flatMap strC) :: .own 38 6 (.slice none 0 0) (([] : List Nd)).length ((([] : List Nd)).flatMap Nd.cells) :: Rs) := hS7.front 2 rfl rfl
   refine RL.callP Tryz.call41 (.cons (.t rfl) (.cons (.t rfl) .nil)) (isP_c (Rs := (.own 9 1 v2 (([[110, 117, 108, 108], [102, 97, 108, 115, 101], [116, 114, 117, 101]] : List Str)).length ((([[110, 117, 108, 108], [102, 97, 108, 115, 101], [116, 114, 117, 101]] : List Str)).flatMap strC) :: .own 38 6 (.slice none 0 0) (([] : List Nd)).length ((([] : List Nd)).flatMap Nd.cells) :: Rs)) s (at' (([[110, 117, 108, 108], [102, 97, 108, 115, 101], [116, 114, 117, 101]] : List Str)) k) i pb hS7 (by omega) (by omega) hb) rfl ?_
   rintro v10 w11 ⟨q8, c9, hc9, hq8a, hq8b, hc9y, hc9n, rfl, hS13⟩
   replace hS13 : St w M0 w11 M4 (.box pb [(str s), (i64 q8)] 55 :: .own 9 1 v2 (([[110, 117, 108, 108], [102, 97, 108, 115, 101], [116, 114, 117, 101]] : List Str)).length ((([[110, 117, 108, 108], [102, 97, 108, 115, 101], [116, 114, 117, 101]] : List Str)).flatMap strC) :: .own 38 6 (.slice none 0 0) (([] : List Nd)).length ((([] : List Nd)).flatMap Nd.cells) :: Rs) := hS13
   refine RL.nil (CW.at [Y 0 (.pointer (some ⟨pb, 0, none⟩)), Y 1 (i64 d), Y 5 (i64 k), Y 8 v2, Y 9 (i64 (len (([[110, 117, 108, 108], [102, 97, 108, 115, 101], [116, 114, 117, 101]] : List Str)))), Y 10 (i64 k), Y 17 (.bool c9)] rfl ?_)
   refine CW.cond rfl (fun hb2 => ?_) (fun hb2 => ?_)
   ·try simp only [zb] at hb2
    refine CW.sr ?_
    refine RL.m rfl rfl (RL.u (.build (vs := [(0, (i64 k))]) (v := (.agg #[(i64 k), (i64 0), (str []), (str []), (.bool false), (i64 0)])) (.cons (.t rfl) .nil) (fun w => by kernel_rfl)) rfl ?_)
    refine RL.buildSlice (n := 1) (sz := 6) (e := 38) (vs := [(0, (.agg #[(i64 k), (i64 0), (str []), (str []), (.bool false), (i64 0)]))]) (cs := [(i64 k), (i64 0), (str []), (str []), (.bool false), (i64 0)]) hS13 (.cons (.t rfl) .nil) rfl rfl (fun w => by kernel_rfl) rfl (fun v15 w16 M17 hS18 hle19 => ?_)
    replace hS18 : St w M0 w16 M17 (.own 38 6 v15 (([⟨k, 0, [], [], false, 0⟩] : List Nd)).length ((([⟨k, 0, [], [], false, 0⟩] : List Nd)).flatMap Nd.cells) :: .box pb [(str s), (i64 q8)] 55 :: .own 9 1 v2 (([[110, 117, 108, 108], [102, 97, 108, 115, 101], [116, 114, 117, 101]] : List Str)).length ((([[110, 117, 108, 108], [102, 97, 108, 115, 101], [116, 114, 117, 101]] : List Str)).flatMap strC) :: .own 38 6 (.slice none 0 0) (([] : List Nd)).length ((([] : List Nd)).flatMap Nd.cells) :: Rs) := hS18
    refine RL.a rfl rfl ?_
    refine RL.nil (CW.id ?_)
    refine CW.ret (hE.r1 rfl rfl ?_)
    have hslr := (hS18.sl (i := 0) rfl)
    replace hS18 : St w M0 w16 M17 (.own 38 6 v15 (([⟨k, 0, [], [], false, 0⟩] : List Nd)).length ((([⟨k, 0, [], [], false, 0⟩] : List Nd)).flatMap Nd.cells) :: .box pb [(str s), (i64 q8)] 55 :: .own 9 1 v2 (([[110, 117, 108, 108], [102, 97, 108, 115, 101], [116, 114, 117, 101]] : List Str)).length ((([[110, 117, 108, 108], [102, 97, 108, 115, 101], [116, 114, 117, 101]] : List Str)).flatMap strC) :: Rs) := hS18.erase 3 rfl
    replace hS18 : St w M0 w16 M17 (.own 38 6 v15 (([⟨k, 0, [], [], false, 0⟩] : List Nd)).length ((([⟨k, 0, [], [], false, 0⟩] : List Nd)).flatMap Nd.cells) :: .box pb [(str s), (i64 q8)] 55 :: Rs) := hS18.erase 2 rfl
    replace hS18 : St w M0 w16 M17 (.box pb [(str s), (i64 q8)] 55 :: Rs) := hS18.erase 0 rfl
    have h9 := hc9.symm.trans hb2
    have hq := hc9y hb2
    have hw4 : 4 ≤ len (at' ([[110, 117, 108, 108], [102, 97, 108, 115, 101], [116, 114, 117, 101]] : List Str) k) ∧ len (at' ([[110, 117, 108, 108], [102, 97, 108, 115, 101], [116, 114, 117, 101]] : List Str) k) ≤ 5 := hw3 k hk0 (by omega)
    obtain ⟨az, cz, hz⟩ := Sl.shape hslr
    exact PPost.ok (by rw [hq]; exact valT_word hk0 (by omega) hno h9) ⟨az, cz, hz, by omega, by omega, by show (1 : Int) ≤ _ - _; omega, hz ▸ hslr, hS18⟩ (hle6.trans hle19)
   ·try simp only [zb] at hb2
    refine CW.skip (CW.id ?_)
    refine CW.region ?_
    refine RL.u (.add (.t rfl) .c (fun _ => by omega)) rfl (RL.m rfl rfl ?_)
    obtain rfl : i = q8 := (hc9n hb2).symm
    replace hS13 : St w M0 w11 M4 (.own 38 6 (.slice none 0 0) (([] : List Nd)).length ((([] : List Nd)).flatMap Nd.cells) :: .box pb [(str s), (i64 i)] 55 :: .own 9 1 v2 (([[110, 117, 108, 108], [102, 97, 108, 115, 101], [116, 114, 117, 101]] : List Str)).length ((([[110, 117, 108, 108], [102, 97, 108, 115, 101], [116, 114, 117, 101]] : List Str)).flatMap strC) :: Rs) := hS13.front 2 rfl rfl
    replace hS13 : St w M0 w11 M4 (.own 9 1 v2 (([[110, 117, 108, 108], [102, 97, 108, 115, 101], [116, 114, 117, 101]] : List Str)).length ((([[110, 117, 108, 108], [102, 97, 108, 115, 101], [116, 114, 117, 101]] : List Str)).flatMap strC) :: .own 38 6 (.slice none 0 0) (([] : List Nd)).length ((([] : List Nd)).flatMap Nd.cells) :: .box pb [(str s), (i64 i)] 55 :: Rs) := hS13.front 2 rfl rfl
    refine RL.nil fun a hs => Exists.intro (k + 1) ⟨hs.keep [0, 1, 8, 9, 10], ?_, ?_⟩
    ·refine ⟨hS13, ?_⟩
     exact ⟨by omega, by omega, hno.step (hc9.symm.trans hb2)⟩
    ·show Int.toNat _ < Int.toNat _; omega
  ·try simp only [zb] at hb1
   obtain rfl : k = 3 := by omega
   have hv := valT_go f d hno
   refine CW.exit (CW.at [Y 0 (.pointer (some ⟨pb, 0, none⟩)), Y 1 (i64 d)] rfl ?_)
   refine CW.seq ?_
   refine CW.seq ?_
   refine CW.regionD hS7 tryz_mixed (by decide +kernel) ?_
   refine RQ.v .none (.move (.t rfl)) rfl ?_
   refine RQ.v .none (.nilP (.t rfl)) rfl ?_
   refine RQ.v .none (.fldA (q := ⟨pb, 1, none⟩) (.t rfl) (fun w => by kernel_rfl)) rfl ?_
   refine RQ.v .none (.loadB1 (v := (i64 i)) hS7 (fun _ h => h) (i := 2) rfl (.t rfl) Tryz.isAgg3 rfl) rfl ?_
   refine RQ.v .none (.move (.t rfl)) rfl ?_
   refine RQ.v .none (.nilP (.t rfl)) rfl ?_
   refine RQ.v .none (.fldA (q := ⟨pb, 0, none⟩) (.t rfl) (fun w => by kernel_rfl)) rfl ?_
   refine RQ.v .none (.loadB1 (v := (str s)) hS7 (fun _ h => h) (i := 2) rfl (.t rfl) Tryz.isAgg9 rfl) rfl ?_
   refine RQ.v .none (.lenS (.t rfl) Tryz.underlying9) rfl ?_
   refine RQ.v .none (.eql (.t rfl) (.t rfl)) rfl ?_
   refine RQ.nil (fun a hs w20 hS21 => CW.at [Y 0 (.pointer (some ⟨pb, 0, none⟩)), Y 1 (i64 d), Y 31 (.bool (i == (len s)))] rfl ?_ a hs)
   refine CW.cond rfl (fun hb3 => ?_) (fun hb3 => ?_)
   ·try simp only [zb] at hb3
    refine CW.region ?_
    refine RL.m rfl rfl (RL.m rfl rfl (RL.u (.nilP (.t rfl)) rfl (RL.u (.fldA (q := ⟨pb, 1, none⟩) (.t rfl) (fun w => by kernel_rfl)) rfl (RL.u (.loadB1 (v := (i64 i)) hS21 extEq (i := 2) rfl (.t rfl) Tryz.isAgg3 rfl) rfl ?_))))
    refine RL.callF Tryz.call28 (.cons (.t rfl) (.cons .c (.cons (.t rfl) .nil))) (fail_c 1 i (.pointer (some ⟨pb, 0, none⟩)) _) ?_
    replace hS21 := hS21.drop Rs (List.sublist_append_right [_, _, _] _)
    exact hE.p (PPost.er (by rw [hv, if_pos hb3]) hS21 hle6)
   ·try simp only [zb] at hb3
    refine CW.skip (CW.at [Y 0 (.pointer (some ⟨pb, 0, none⟩)), Y 1 (i64 d)] rfl ?_)
    refine CW.seq ?_
    refine CW.seq ?_
    refine CW.regionD hS21 tryz_mixed (by decide +kernel) ?_
    refine RQ.v .none (.move (.t rfl)) rfl ?_
    refine RQ.v .none (.nilP (.t rfl)) rfl ?_
    refine RQ.v .none (.fldA (q := ⟨pb, 0, none⟩) (.t rfl) (fun w => by kernel_rfl)) rfl ?_
    refine RQ.v .none (.loadB1 (v := (str s)) hS21 (fun _ h => h) (i := 2) rfl (.t rfl) Tryz.isAgg9 rfl) rfl ?_
    refine RQ.v .none (.move (.t rfl)) rfl ?_
    refine RQ.v .none (.nilP (.t rfl)) rfl ?_
    refine RQ.v .none (.fldA (q := ⟨pb, 1, none⟩) (.t rfl) (fun w => by kernel_rfl)) rfl ?_
    refine RQ.v .none (.loadB1 (v := (i64 i)) hS21 (fun _ h => h) (i := 2) rfl (.t rfl) Tryz.isAgg3 rfl) rfl ?_
    refine RQ.v .none (.idxS (.t rfl) (.t rfl) Tryz.underlying9 (fun _ => by omega)) rfl ?_
    refine RQ.v .none (.assign (.t rfl)) rfl ?_
    refine RQ.nil (fun a hs w22 hS23 => CW.at [Y 0 (.pointer (some ⟨pb, 0, none⟩)), Y 1 (i64 d), Y 7 (.int .u8 (byteAt s i))] rfl ?_ a hs)
    refine CW.block ?_
    refine CW.sr ?_
    refine RL.m rfl rfl (RL.u (.eql (.t rfl) .c) rfl (RL.a rfl rfl ?_))
    refine RL.nil (CW.id ?_)
    refine CW.cond rfl (fun hb4 => ?_) (fun hb4 => ?_)
    ·try simp only [zb] at hb4
     refine CW.sr ?_
     refine RL.m rfl rfl ?_
     replace hS23 : St w M0 w22 M4 (.box pb [(str s), (i64 i)] 55 :: .own 9 1 v2 (([[110, 117, 108, 108], [102, 97, 108, 115, 101], [116, 114, 117, 101]] : List Str)).length ((([[110, 117, 108, 108], [102, 97, 108, 115, 101], [116, 114, 117, 101]] : List Str)).flatMap strC) :: .own 38 6 (.slice none 0 0) (([] : List Nd)).length ((([] : List Nd)).flatMap Nd.cells) :: Rs) := hS23.front 2 rfl rfl
     refine RL.callR Tryz.call42 (.cons (.t rfl) .nil) (text_c (Rs := (.own 9 1 v2 (([[110, 117, 108, 108], [102, 97, 108, 115, 101], [116, 114, 117, 101]] : List Str)).length ((([[110, 117, 108, 108], [102, 97, 108, 115, 101], [116, 114, 117, 101]] : List Str)).flatMap strC) :: .own 38 6 (.slice none 0 0) (([] : List Nd)).length ((([] : List Nd)).flatMap Nd.cells) :: Rs)) s i pb hS23 (by omega) (by omega) hb hg) rfl (fun ec p M33 w34 hr37 hS35 hle36 => ?_) (fun x24 j25 v26 M28 w27 hr29 hF32 hle31 => ?_)
     ·replace hS35 := hS35.drop Rs (List.sublist_append_right [_, _] _)
      exact hE.p (PPost.er (by rw [hv, if_neg hb3, if_pos hb4, hr37]; rfl) hS35 (hle6.trans hle36))
     obtain ⟨rfl, hF32a, hF32b, hS30⟩ := hF32
     refine RL.u (.build (vs := [(0, (i64 4)), (3, (str x24))]) (v := (.agg #[(i64 4), (i64 0), (str []), (str x24), (.bool false), (i64 0)])) (.cons .c (.cons (.t rfl) .nil)) (fun w => by kernel_rfl)) rfl ?_
     refine RL.buildSlice (n := 1) (sz := 6) (e := 38) (vs := [(0, (.agg #[(i64 4), (i64 0), (str []), (str x24), (.bool false), (i64 0)]))]) (cs := [(i64 4), (i64 0), (str []), (str x24), (.bool false), (i64 0)]) hS30 (.cons (.t rfl) .nil) rfl rfl (fun w => by kernel_rfl) rfl (fun v38 w39 M40 hS41 hle42 => ?_)
     replace hS41 : St w M0 w39 M40 (.own 38 6 v38 (([⟨4, 0, [], x24, false, 0⟩] : List Nd)).length ((([⟨4, 0, [], x24, false, 0⟩] : List Nd)).flatMap Nd.cells) :: .box pb [(str s), (i64 j25)] 55 :: .own 9 1 v2 (([[110, 117, 108, 108], [102, 97, 108, 115, 101], [116, 114, 117, 101]] : List Str)).length ((([[110, 117, 108, 108], [102, 97, 108, 115, 101], [116, 114, 117, 101]] : List Str)).flatMap strC) :: .own 38 6 (.slice none 0 0) (([] : List Nd)).length ((([] : List Nd)).flatMap Nd.cells) :: Rs) := hS41
     refine RL.a rfl rfl ?_
     refine RL.nil (CW.at [Y 4 v38] rfl ?_)
     refine CW.ret (hE.r1 rfl rfl ?_)
     have hslr := (hS41.sl (i := 0) rfl)
     replace hS41 : St w M0 w39 M40 (.own 38 6 v38 (([⟨4, 0, [], x24, false, 0⟩] : List Nd)).length ((([⟨4, 0, [], x24, false, 0⟩] : List Nd)).flatMap Nd.cells) :: .box pb [(str s), (i64 j25)] 55 :: .own 9 1 v2 (([[110, 117, 108, 108], [102, 97, 108, 115, 101], [116, 114, 117, 101]] : List Str)).length ((([[110, 117, 108, 108], [102, 97, 108, 115, 101], [116, 114, 117, 101]] : List Str)).flatMap strC) :: Rs) := hS41.erase 3 rfl
     replace hS41 : St w M0 w39 M40 (.own 38 6 v38 (([⟨4, 0, [], x24, false, 0⟩] : List Nd)).length ((([⟨4, 0, [], x24, false, 0⟩] : List Nd)).flatMap Nd.cells) :: .box pb [(str s), (i64 j25)] 55 :: Rs) := hS41.erase 2 rfl
     replace hS41 : St w M0 w39 M40 (.box pb [(str s), (i64 j25)] 55 :: Rs) := hS41.erase 0 rfl
     obtain ⟨az, cz, hz⟩ := Sl.shape hslr
     exact PPost.ok (by rw [hv, if_neg hb3, if_pos hb4, hr29]; rfl) ⟨az, cz, hz, by omega, by omega, by show (1 : Int) ≤ _ - _; omega, hz ▸ hslr, hS41⟩ ((hle6.trans hle31).trans hle42)
    ·try simp only [zb] at hb4
     refine CW.sr ?_
     refine RL.m rfl rfl (RL.u (.eql (.t rfl) .c) rfl (RL.m rfl rfl (RL.v (.neg rfl rfl) (.move (.t rfl)) rfl ?_)))
     refine RL.callS (.neg rfl rfl) Tryz.call43 (.cons .c (.cons (.g rfl (fun h => h)) .nil)) (fun hW => by simp only [zb] at hW; exact (indexByte_c [48, 49, 50, 51, 52, 53, 54, 55, 56, 57] (byteAt s i) _)) rfl ?_
     refine RL.v (.neg rfl rfl) (.geq (.g rfl (fun h => h)) .c) rfl (RL.u (.or (.t rfl) (.g rfl (fun h => h))) rfl (RL.a rfl rfl ?_))
     refine RL.nil (CW.at [Y 0 (.pointer (some ⟨pb, 0, none⟩)), Y 1 (i64 d), Y 7 (.int .u8 (byteAt s i)), Y 54 (.bool (((byteAt s i) == 45) || (decide (0 ≤ (Lib.indexByte [48, 49, 50, 51, 52, 53, 54, 55, 56, 57] (byteAt s i).toNat.toUInt8)))))] rfl ?_)
     refine CW.cond rfl (fun hb5 => ?_) (fun hb5 => ?_)
     ·try simp only [zb] at hb5
      have h5 : byteAt s i = 45 ∨ isFig (byteAt s i) = true := by rw [← index_fig (byteAt s i) (by omega)]; omega
      refine CW.sr ?_
      refine RL.m rfl rfl ?_
      replace hS23 : St w M0 w22 M4 (.box pb [(str s), (i64 i)] 55 :: .own 9 1 v2 (([[110, 117, 108, 108], [102, 97, 108, 115, 101], [116, 114, 117, 101]] : List Str)).length ((([[110, 117, 108, 108], [102, 97, 108, 115, 101], [116, 114, 117, 101]] : List Str)).flatMap strC) :: .own 38 6 (.slice none 0 0) (([] : List Nd)).length ((([] : List Nd)).flatMap Nd.cells) :: Rs) := hS23.front 2 rfl rfl
      refine RL.callR Tryz.call44 (.cons (.t rfl) .nil) (numberP_c (Rs := (.own 9 1 v2 (([[110, 117, 108, 108], [102, 97, 108, 115, 101], [116, 114, 117, 101]] : List Str)).length ((([[110, 117, 108, 108], [102, 97, 108, 115, 101], [116, 114, 117, 101]] : List Str)).flatMap strC) :: .own 38 6 (.slice none 0 0) (([] : List Nd)).length ((([] : List Nd)).flatMap Nd.cells) :: Rs)) s i pb hS23 (by omega) (by omega) hb hg) rfl (fun ec p M52 w53 hr56 hS54 hle55 => ?_) (fun x43 j44 v45 M47 w46 hr48 hF51 hle50 => ?_)
      ·replace hS54 := hS54.drop Rs (List.sublist_append_right [_, _] _)
       exact hE.p (PPost.er (by rw [hv, if_neg hb3, if_neg hb4, if_pos h5, hr56]) hS54 (hle6.trans hle55))
      obtain ⟨hsl_v45, hF51a, hF51b, hS49⟩ := hF51
      refine RL.a rfl rfl ?_
      refine RL.nil (CW.at [Y 4 v45] rfl ?_)
      refine CW.ret (hE.r1 rfl rfl ?_)
      have hslr := hsl_v45
      replace hS49 : St w M0 w46 M47 (.box pb [(str s), (i64 j44)] 55 :: .own 9 1 v2 (([[110, 117, 108, 108], [102, 97, 108, 115, 101], [116, 114, 117, 101]] : List Str)).length ((([[110, 117, 108, 108], [102, 97, 108, 115, 101], [116, 114, 117, 101]] : List Str)).flatMap strC) :: Rs) := hS49.erase 2 rfl
      replace hS49 : St w M0 w46 M47 (.box pb [(str s), (i64 j44)] 55 :: Rs) := hS49.erase 1 rfl
      obtain ⟨az, cz, hz⟩ := Sl.shape hslr
      have hj := numT_j hr48
      have hrp := runN_pos h0 (by omega) h5
      exact PPost.ok (by rw [hv, if_neg hb3, if_neg hb4, if_pos h5, hr48]) ⟨az, cz, hz, by omega, by omega, by omega, hz ▸ hslr, hS49⟩ (hle6.trans hle50)
     ·try simp only [zb] at hb5
      have h5 : ¬ (byteAt s i = 45 ∨ isFig (byteAt s i) = true) := by rw [← index_fig (byteAt s i) (by omega)]; omega
      refine CW.sr ?_
      refine RL.m rfl rfl (RL.u (.neq (.t rfl) .c) rfl (RL.m rfl rfl (RL.v (.pos rfl rfl) (.move (.t rfl)) rfl (RL.v (.pos rfl rfl) (.neq (.g rfl (fun h => h)) .c) rfl (RL.u (.and (.t rfl) (.g rfl (fun h => h))) rfl ?_)))))
      refine RL.a rfl rfl ?_
      refine RL.nil (CW.id ?_)
      refine CW.cond rfl (fun hb6 => ?_) (fun hb6 => ?_)
      ·try simp only [zb] at hb6
       have h6 : byteAt s i ≠ 91 ∧ byteAt s i ≠ 123 := by omega
       refine CW.region ?_
       refine RL.m rfl rfl (RL.m rfl rfl (RL.u (.nilP (.t rfl)) rfl (RL.u (.fldA (q := ⟨pb, 1, none⟩) (.t rfl) (fun w => by kernel_rfl)) rfl (RL.u (.loadB1 (v := (i64 i)) hS23 extEq (i := 2) rfl (.t rfl) Tryz.isAgg3 rfl) rfl ?_))))
       refine RL.callF Tryz.call28 (.cons (.t rfl) (.cons .c (.cons (.t rfl) .nil))) (fail_c 1 i (.pointer (some ⟨pb, 0, none⟩)) _) ?_
       replace hS23 := hS23.drop Rs (List.sublist_append_right [_, _, _] _)
       exact hE.p (PPost.er (by rw [hv, if_neg hb3, if_neg hb4, if_neg h5, if_pos h6]) hS23 hle6)
      ·try simp only [zb] at hb6
       have h6 : ¬ (byteAt s i ≠ 91 ∧ byteAt s i ≠ 123) := by omega
       refine CW.sr ?_
       refine RL.m rfl rfl (RL.u (.geq (.t rfl) .c) rfl (RL.a rfl rfl ?_))
       refine RL.nil (CW.at [Y 0 (.pointer (some ⟨pb, 0, none⟩)), Y 1 (i64 d), Y 7 (.int .u8 (byteAt s i)), Y 77 (.bool (decide (128 ≤ d)))] rfl ?_)
       refine CW.cond rfl (fun hb7 => ?_) (fun hb7 => ?_)
       ·try simp only [zb] at hb7
        refine CW.region ?_
        refine RL.m rfl rfl (RL.m rfl rfl (RL.u (.nilP (.t rfl)) rfl (RL.u (.fldA (q := ⟨pb, 1, none⟩) (.t rfl) (fun w => by kernel_rfl)) rfl (RL.u (.loadB1 (v := (i64 i)) hS23 extEq (i := 2) rfl (.t rfl) Tryz.isAgg3 rfl) rfl ?_))))
        refine RL.callF Tryz.call28 (.cons (.t rfl) (.cons .c (.cons (.t rfl) .nil))) (fail_c 3 i (.pointer (some ⟨pb, 0, none⟩)) _) ?_
        replace hS23 := hS23.drop Rs (List.sublist_append_right [_, _, _] _)
        exact hE.p (PPost.er (by rw [hv, if_neg hb3, if_neg hb4, if_neg h5, if_neg h6, if_pos hb7]) hS23 hle6)
       ·try simp only [zb] at hb7
        replace hb7 : ¬ 128 ≤ d := by omega
        refine CW.sr ?_
        refine RL.m rfl rfl (RL.u (.eql (.t rfl) .c) rfl (RL.a rfl rfl ?_))
        refine RL.nil (CW.at [Y 0 (.pointer (some ⟨pb, 0, none⟩)), Y 1 (i64 d), Y 86 (.bool ((byteAt s i) == 91))] rfl ?_)
        refine CW.cond rfl (fun hb8 => ?_) (fun hb8 => ?_)
        ·try simp only [zb] at hb8
         refine CW.sr ?_
         refine RL.m rfl rfl (RL.m rfl rfl ?_)
         replace hS23 : St w M0 w22 M4 (.box pb [(str s), (i64 i)] 55 :: .own 9 1 v2 (([[110, 117, 108, 108], [102, 97, 108, 115, 101], [116, 114, 117, 101]] : List Str)).length ((([[110, 117, 108, 108], [102, 97, 108, 115, 101], [116, 114, 117, 101]] : List Str)).flatMap strC) :: .own 38 6 (.slice none 0 0) (([] : List Nd)).length ((([] : List Nd)).flatMap Nd.cells) :: Rs) := hS23.front 2 rfl rfl
         refine RL.callR Tryz.call45 (.cons (.t rfl) (.cons (.t rfl) .nil)) (listp_c (Rs := (.own 9 1 v2 (([[110, 117, 108, 108], [102, 97, 108, 115, 101], [116, 114, 117, 101]] : List Str)).length ((([[110, 117, 108, 108], [102, 97, 108, 115, 101], [116, 114, 117, 101]] : List Str)).flatMap strC) :: .own 38 6 (.slice none 0 0) (([] : List Nd)).length ((([] : List Nd)).flatMap Nd.cells) :: Rs)) s i d pb f hS23 h0 (by omega) hb (by omega) (by omega) hval) rfl (fun ec p M68 w69 hr72 hS70 hle71 => ?_) (fun x59 j60 v61 M63 w62 hr64 hF67 hle66 => ?_)
         ·replace hS70 := hS70.drop Rs (List.sublist_append_right [_, _] _)
          exact hE.p (PPost.er (by rw [hv, if_neg hb3, if_neg hb4, if_neg h5, if_neg h6, if_neg hb7, if_pos hb8, hr72]) hS70 (hle6.trans hle71))
         obtain ⟨a57, c58, rfl, hF67a, hF67b, hF67c, hsl_v61, hS65⟩ := hF67
         refine RL.a rfl rfl ?_
         refine RL.nil (CW.at [Y 4 (.slice a57 x59.length c58)] rfl ?_)
         refine CW.ret (hE.r1 rfl rfl ?_)
         have hslr := hsl_v61
         replace hS65 : St w M0 w62 M63 (.box pb [(str s), (i64 j60)] 55 :: .own 9 1 v2 (([[110, 117, 108, 108], [102, 97, 108, 115, 101], [116, 114, 117, 101]] : List Str)).length ((([[110, 117, 108, 108], [102, 97, 108, 115, 101], [116, 114, 117, 101]] : List Str)).flatMap strC) :: Rs) := hS65.erase 2 rfl
         replace hS65 : St w M0 w62 M63 (.box pb [(str s), (i64 j60)] 55 :: Rs) := hS65.erase 1 rfl
         exact PPost.ok (by rw [hv, if_neg hb3, if_neg hb4, if_neg h5, if_neg h6, if_neg hb7, if_pos hb8, hr64]) ⟨_, _, rfl, by omega, by omega, by omega, hslr, hS65⟩ (hle6.trans hle66)
        ·try simp only [zb] at hb8
         refine CW.skip (CW.id ?_)
         refine CW.sr ?_
         refine RL.m rfl rfl (RL.m rfl rfl ?_)
         replace hS23 : St w M0 w22 M4 (.box pb [(str s), (i64 i)] 55 :: .own 9 1 v2 (([[110, 117, 108, 108], [102, 97, 108, 115, 101], [116, 114, 117, 101]] : List Str)).length ((([[110, 117, 108, 108], [102, 97, 108, 115, 101], [116, 114, 117, 101]] : List Str)).flatMap strC) :: .own 38 6 (.slice none 0 0) (([] : List Nd)).length ((([] : List Nd)).flatMap Nd.cells) :: Rs) := hS23.front 2 rfl rfl
         refine RL.callR Tryz.call46 (.cons (.t rfl) (.cons (.t rfl) .nil)) (hobj (Rs := (.own 9 1 v2 (([[110, 117, 108, 108], [102, 97, 108, 115, 101], [116, 114, 117, 101]] : List Str)).length ((([[110, 117, 108, 108], [102, 97, 108, 115, 101], [116, 114, 117, 101]] : List Str)).flatMap strC) :: .own 38 6 (.slice none 0 0) (([] : List Nd)).length ((([] : List Nd)).flatMap Nd.cells) :: Rs)) i d hS23 h0 (by omega) (by omega) (by omega)) rfl (fun ec p M84 w85 hr88 hS86 hle87 => ?_) (fun x75 j76 v77 M79 w78 hr80 hF83 hle82 => ?_)
         ·replace hS86 := hS86.drop Rs (List.sublist_append_right [_, _] _)
          exact hE.p (PPost.er (by rw [hv, if_neg hb3, if_neg hb4, if_neg h5, if_neg h6, if_neg hb7, if_neg hb8, hr88]) hS86 (hle6.trans hle87))
         obtain ⟨a73, c74, rfl, hF83a, hF83b, hF83c, hsl_v77, hS81⟩ := hF83
         refine RL.a rfl rfl ?_
         refine RL.nil (CW.at [Y 4 (.slice a73 x75.length c74)] rfl ?_)
         refine CW.ret (hE.r1 rfl rfl ?_)
         have hslr := hsl_v77
         replace hS81 : St w M0 w78 M79 (.box pb [(str s), (i64 j76)] 55 :: .own 9 1 v2 (([[110, 117, 108, 108], [102, 97, 108, 115, 101], [116, 114, 117, 101]] : List Str)).length ((([[110, 117, 108, 108], [102, 97, 108, 115, 101], [116, 114, 117, 101]] : List Str)).flatMap strC) :: Rs) := hS81.erase 2 rfl
         replace hS81 : St w M0 w78 M79 (.box pb [(str s), (i64 j76)] 55 :: Rs) := hS81.erase 1 rfl
         exact PPost.ok (by rw [hv, if_neg hb3, if_neg hb4, if_neg h5, if_neg h6, if_neg hb7, if_neg hb8, hr80]) ⟨_, _, rfl, by omega, by omega, by omega, hslr, hS81⟩ (hle6.trans hle82)

end Go.Proofs.YtjfaikgooldcbaaGreatDoor
namespace Go.Proofs.YtjfaikgooldcbaaGreatDoor
open Go.Eng

/- (*loupe/text.parser).object -/
set_option maxRecDepth 100000 in
theorem objectp_c {w wv : World} {M0 M : Mem} {Rs : List HO} (s : Str) (i d : Int) (pb : Nat) (Fu : Nat) (hS : St w M0 wv M (.box pb [(str s), (i64 i)] 55 :: Rs)) (h0 : 0 ≤ i) (h1 : i < len s) (hb : len s ≤ 1099511627776) (hg : Gl w) (hd : 0 ≤ d ∧ d ≤ 900) (hf : 2 * (len s - i) ≤ Fu) (hval : ∀ f, f < Fu → ValOK w M0 s pb f) :
  Calls Tryz.prog 46 [(.pointer (some ⟨pb, 0, none⟩)), (i64 d)].toArray wv fun e w' => PPost w M0 M Rs 51 (fun x j v M' w' => ∃ a c, v = .slice a x.length c ∧ i + 1 ≤ j ∧ j ≤ len s ∧ len x ≤ j - i ∧ Sl M' 6 x.length (.slice a x.length c) (x.flatMap Nd.cells) ∧ St w M0 w' M' (.box pb [str s, i64 j] 55 :: Rs)) (mapR objV (partsT s i [125] [] (pairsT Fu s d))) e w' := by
 refine CW.enter1 Tryz.func46 rfl Tryz.ntmps46 (Nat.le_of_ble_eq_true rfl) fun Q hE => ?_
 refine CW.weaken [0, 1] (L' := [Y 0 (.pointer (some ⟨pb, 0, none⟩)), Y 1 (i64 d)]) ?_ rfl
 refine CW.sr ?_
 refine RL.box (v := (.pointer (some ⟨pb, 0, none⟩))) hS (.t rfl) rfl (fun w1 b2 hS3 => ?_)
 refine RL.box (v := (i64 d)) hS3 (.t rfl) rfl (fun w4 b5 hS6 => ?_)
 have hS7 := hS6.ownNil 38 6
 replace hS7 : St w M0 w4 M (.own 38 6 (.slice none 0 0) (([] : List Nd)).length ((([] : List Nd)).flatMap Nd.cells) :: .box b5 [(i64 d)] 3 :: .box b2 [(.pointer (some ⟨pb, 0, none⟩))] 53 :: .box pb [(str s), (i64 i)] 55 :: Rs) := hS7
 refine RL.u (.assign .c) rfl ?_
 refine RL.nil (CW.id ?_)
 refine CW.sr ?_
 refine RL.smakeMap hS7 rfl (fun w8 b9 hS10 => ?_)
 replace hS10 : St w M0 w8 M (.raw b9 (smobj [] 0) :: .own 38 6 (.slice none 0 0) (([] : List Nd)).length ((([] : List Nd)).flatMap Nd.cells) :: .box b5 [(i64 d)] 3 :: .box b2 [(.pointer (some ⟨pb, 0, none⟩))] 53 :: .box pb [(str s), (i64 i)] 55 :: Rs) := hS10
 refine RL.alloc hS10 Tryz.zeroValue106 rfl (fun w11 b12 hS13 => ?_)
 refine RL.st hS13 (i := 0) rfl (.t rfl) (.t rfl) Tryz.sizeOf106 rfl rfl rfl rfl rfl (fun w14 hS15 => ?_)
 refine RL.nil (CW.id ?_)
 refine CW.sr ?_
 refine RL.u (.loadB1 (v := (.pointer (some ⟨pb, 0, none⟩))) hS15 extEq (i := 4) rfl (.t rfl) Tryz.isAgg53 rfl) rfl (RL.u (.makeFunc .nil (.cons (.t rfl) (.cons (.t rfl) (.cons (.t rfl) .nil)))) rfl ?_)
 replace hS15 : St w M0 w14 M (.raw b9 (smobj [] 0) :: .box b12 [(.map (some b9))] 106 :: .own 38 6 (.slice none 0 0) (([] : List Nd)).length ((([] : List Nd)).flatMap Nd.cells) :: .box b5 [(i64 d)] 3 :: .box b2 [(.pointer (some ⟨pb, 0, none⟩))] 53 :: .box pb [(str s), (i64 i)] 55 :: Rs) := hS15.front 1 rfl rfl
 replace hS15 : St w M0 w14 M (.box b12 [(.map (some b9))] 106 :: .raw b9 (smobj [] 0) :: .own 38 6 (.slice none 0 0) (([] : List Nd)).length ((([] : List Nd)).flatMap Nd.cells) :: .box b5 [(i64 d)] 3 :: .box b2 [(.pointer (some ⟨pb, 0, none⟩))] 53 :: .box pb [(str s), (i64 i)] 55 :: Rs) := hS15.front 1 rfl rfl
 replace hS15 : St w M0 w14 M (.box b5 [(i64 d)] 3 :: .box b12 [(.map (some b9))] 106 :: .raw b9 (smobj [] 0) :: .own 38 6 (.slice none 0 0) (([] : List Nd)).length ((([] : List Nd)).flatMap Nd.cells) :: .box b2 [(.pointer (some ⟨pb, 0, none⟩))] 53 :: .box pb [(str s), (i64 i)] 55 :: Rs) := hS15.front 3 rfl rfl
 replace hS15 : St w M0 w14 M (.box b2 [(.pointer (some ⟨pb, 0, none⟩))] 53 :: .box b5 [(i64 d)] 3 :: .box b12 [(.map (some b9))] 106 :: .raw b9 (smobj [] 0) :: .own 38 6 (.slice none 0 0) (([] : List Nd)).length ((([] : List Nd)).flatMap Nd.cells) :: .box pb [(str s), (i64 i)] 55 :: Rs) := hS15.front 4 rfl rfl
 replace hS15 : St w M0 w14 M (.box pb [(str s), (i64 i)] 55 :: .box b2 [(.pointer (some ⟨pb, 0, none⟩))] 53 :: .box b5 [(i64 d)] 3 :: .box b12 [(.map (some b9))] 106 :: .raw b9 (smobj [] 0) :: .own 38 6 (.slice none 0 0) (([] : List Nd)).length ((([] : List Nd)).flatMap Nd.cells) :: Rs) := hS15.front 5 rfl rfl
 refine RL.callR Tryz.call72 (.cons (.t rfl) (.cons .c (.cons (.t rfl) .nil))) (obj_parts (Rs := (.own 38 6 (.slice none 0 0) (([] : List Nd)).length ((([] : List Nd)).flatMap Nd.cells) :: Rs)) s i d pb b2 b5 b12 b9 Fu hS15 h0 h1 hb hg hd hf hval) rfl (fun ec p M25 w26 hr29 hS27 hle28 => ?_) (fun x16 j17 v18 M20 w19 hr21 hF24 hle23 => ?_)
 ·replace hS27 := hS27.drop Rs (List.sublist_append_right [_] _)
  exact hE.p (PPost.er (show mapR _ _ = _ from by rw [hr29]; rfl) hS27 hle28)
 obtain ⟨hF24a, hF24b, ⟨hF24c, hF24d⟩, hk, hut, l2, c2, hmap, hbo, hS22⟩ := hF24
 refine RL.nil (CW.at [Y 5 (.pointer (some ⟨b12, 0, none⟩))] rfl ?_)
 refine CW.sr ?_
 have hS30 := hS22.ownNil 9 1
 replace hS30 : St w M0 w19 M20 (.own 9 1 (.slice none 0 0) (([] : List Str)).length ((([] : List Str)).flatMap strC) :: .box pb [(str s), (i64 j17)] 55 :: .box b2 [(.pointer (some ⟨pb, 0, none⟩))] 53 :: .box b5 [(i64 d)] 3 :: .box b12 [(.map (some b9))] 106 :: .raw b9 (smobj l2 c2) :: .own 38 6 (.slice none 0 0) (([] : List Nd)).length ((([] : List Nd)).flatMap Nd.cells) :: Rs) := hS30
 refine RL.u (.assign .c) rfl ?_
 refine RL.nil (CW.id ?_)
 refine CW.sr ?_
 have hS31 := hS30.ownNil 24 1
 replace hS31 : St w M0 w19 M20 (.own 24 1 (.slice none 0 0) (([] : List SlH)).length ((([] : List SlH)).flatMap valI) :: .own 9 1 (.slice none 0 0) (([] : List Str)).length ((([] : List Str)).flatMap strC) :: .box pb [(str s), (i64 j17)] 55 :: .box b2 [(.pointer (some ⟨pb, 0, none⟩))] 53 :: .box b5 [(i64 d)] 3 :: .box b12 [(.map (some b9))] 106 :: .raw b9 (smobj l2 c2) :: .own 38 6 (.slice none 0 0) (([] : List Nd)).length ((([] : List Nd)).flatMap Nd.cells) :: Rs) := hS31
 refine RL.u (.assign .c) rfl ?_
 refine RL.nil (CW.id ?_)
 refine CW.seq ?_
 refine CW.sr ?_
 refine RL.u (.loadB1 (v := (.map (some b9))) hS31 extEq (i := 5) rfl (.t rfl) Tryz.isAgg106 rfl) rfl ?_
 refine RL.srangeM hS31 (i := 6) rfl (.t rfl) Tryz.underlying106 rfl (fun w32 b33 hS34 => ?_)
 replace hS34 : St w M0 w32 M20 (.raw b33 (.mapIter (some b9) c2 #[] c2) :: .own 24 1 (.slice none 0 0) (([] : List SlH)).length ((([] : List SlH)).flatMap valI) :: .own 9 1 (.slice none 0 0) (([] : List Str)).length ((([] : List Str)).flatMap strC) :: .box pb [(str s), (i64 j17)] 55 :: .box b2 [(.pointer (some ⟨pb, 0, none⟩))] 53 :: .box b5 [(i64 d)] 3 :: .box b12 [(.map (some b9))] 106 :: .raw b9 (smobj l2 c2) :: .own 38 6 (.slice none 0 0) (([] : List Nd)).length ((([] : List Nd)).flatMap Nd.cells) :: Rs) := hS34
 refine RL.nil (CW.id ?_)
 refine CW.block ?_
 refine CW.loop (σ := List Str × List Vl × Value × Value × List SlH × Array Nat × Mem) (fun (ns, xs, v6, v7, rs, sn, Ml) => [Y 6 v6, Y 7 v7, Y 17 (.pointer (some ⟨b33, 0, none⟩))]) (fun (ns, xs, v6, v7, rs, sn, Ml) wl => St w M0 wl Ml (.raw b33 (.mapIter (some b9) c2 sn c2) :: .own 24 1 v7 rs.length (rs.flatMap valI) :: .own 9 1 v6 ns.length (ns.flatMap strC) :: .box pb [(str s), (i64 j17)] 55 :: .box b2 [(.pointer (some ⟨pb, 0, none⟩))] 53 :: .box b5 [(i64 d)] 3 :: .box b12 [(.map (some b9))] 106 :: .raw b9 (smobj l2 c2) :: .own 38 6 (.slice none 0 0) (([] : List Nd)).length ((([] : List Nd)).flatMap Nd.cells) :: Rs) ∧ MapV Ml l2 x16 ∧ VisS l2 x16 sn ns xs ∧ RowsV Ml 6 Nd.cells rs xs ∧ M.le Ml) (fun (ns, xs, v6, v7, rs, sn, Ml) => x16.length - ns.length) (([], [], .slice none 0 0, .slice none 0 0, ([] : List SlH), #[], M20)) [6, 7, 17] rfl ?_ ?_
 ·refine ⟨hS34, hmap, ?_⟩; exact ⟨VisS.start _ _, trivial, hle23⟩
 ·rintro ⟨ns, xs, v6, v7, rs, sn, Ml⟩ wl ⟨hS35, hmap, hvs, hro, hle0⟩
  have hvn : len ns ≤ 1099511627776 := by have := hvs.le (M := Ml); unfold len at *; omega
  have hrn : len rs = len ns := by unfold len; rw [hro.len, hvs.eq]
  refine CW.sr ?_
  refine RL.snextM hS35 (i := 7) (j := 0) rfl rfl (.t rfl) hbo.1 (Nat.le_refl _) rfl (fun p38 hp39 hns40 w36 hS37 => ?_) (fun hall => ?_)
  ·obtain ⟨pk41, ph42, pb43, px44, rfl, hm45, hsl46⟩ := hmap.mem hp39
   replace hS37 : St w M0 w36 Ml (.raw b33 (.mapIter (some b9) c2 (sn.push pb43) c2) :: .own 24 1 v7 rs.length (rs.flatMap valI) :: .own 9 1 v6 ns.length (ns.flatMap strC) :: .box pb [(str s), (i64 j17)] 55 :: .box b2 [(.pointer (some ⟨pb, 0, none⟩))] 53 :: .box b5 [(i64 d)] 3 :: .box b12 [(.map (some b9))] 106 :: .raw b9 (smobj l2 c2) :: .own 38 6 (.slice none 0 0) (([] : List Nd)).length ((([] : List Nd)).flatMap Nd.cells) :: Rs) := hS37
   refine RL.u (.ex (.t rfl) rfl) rfl ?_
   refine RL.nil (CW.id ?_)
   refine CW.seq ?_
   refine CW.cond rfl (fun _ => ?_) (fun h => by cases h)
   refine CW.skip (CW.id ?_)
   refine CW.block ?_
   refine CW.sr ?_
   refine RL.u (.sentry hS37 extEq (i := 7) (j := 0) rfl rfl (.t rfl) hp39 hbo.2) rfl (RL.u (.ex (.t rfl) rfl) rfl (RL.u (.ex (.t rfl) rfl) rfl (RL.a rfl rfl (RL.a rfl rfl ?_))))
   refine RL.nil (CW.id ?_)
   refine CW.region ?_
   refine RL.m rfl rfl (RL.m rfl rfl ?_)
   refine RL.buildSlice (n := 1) (sz := 1) (e := 9) (vs := [(0, (str pk41))]) (cs := [(str pk41)]) hS37 (.cons (.t rfl) .nil) rfl rfl (fun w => by kernel_rfl) rfl (fun v47 w48 M49 hS50 hle51 => ?_)
   replace hS50 : St w M0 w48 M49 (.own 9 1 v47 (([pk41] : List Str)).length ((([pk41] : List Str)).flatMap strC) :: .raw b33 (.mapIter (some b9) c2 (sn.push pb43) c2) :: .own 24 1 v7 rs.length (rs.flatMap valI) :: .own 9 1 v6 ns.length (ns.flatMap strC) :: .box pb [(str s), (i64 j17)] 55 :: .box b2 [(.pointer (some ⟨pb, 0, none⟩))] 53 :: .box b5 [(i64 d)] 3 :: .box b12 [(.map (some b9))] 106 :: .raw b9 (smobj l2 c2) :: .own 38 6 (.slice none 0 0) (([] : List Nd)).length ((([] : List Nd)).flatMap Nd.cells) :: Rs) := hS50
   replace hmap := hmap.mono hle51
   replace hsl46 := hsl46.mono hle51
   refine RL.append1 (f := strC) (l := ns) (y := pk41) hS50 (k := 3) rfl (.t rfl) (.t rfl) (hS50.sl (i := 0) rfl) Tryz.underlying46 Tryz.type9 rfl rfl rfl strC_one (by' := 16) rfl rfl (by omega) rfl (Hs' := fun v' => (.own 9 1 v47 (([pk41] : List Str)).length ((([pk41] : List Str)).flatMap strC) :: .raw b33 (.mapIter (some b9) c2 (sn.push pb43) c2) :: .own 24 1 v7 rs.length (rs.flatMap valI) :: .own 9 1 v' (ns ++ [pk41]).length ((ns ++ [pk41]).flatMap strC) :: .box pb [(str s), (i64 j17)] 55 :: .box b2 [(.pointer (some ⟨pb, 0, none⟩))] 53 :: .box b5 [(i64 d)] 3 :: .box b12 [(.map (some b9))] 106 :: .raw b9 (smobj l2 c2) :: .own 38 6 (.slice none 0 0) (([] : List Nd)).length ((([] : List Nd)).flatMap Nd.cells) :: Rs)) (fun _ => rfl) (fun v52 w53 M54 hS55 hle56 => ?_)
   replace hS55 := hS55.erase 0 rfl
   replace hmap := hmap.mono hle56
   replace hsl46 := hsl46.mono hle56
   refine RL.m rfl rfl (RL.m rfl rfl ?_)
   refine RL.buildSlice (n := 1) (sz := 1) (e := 24) (vs := [(0, ph42.v)]) (cs := [ph42.v]) hS55 (.cons (.t rfl) .nil) rfl rfl (fun w => by kernel_rfl) rfl (fun v57 w58 M59 hS60 hle61 => ?_)
   replace hS60 : St w M0 w58 M59 (.own 24 1 v57 (([ph42] : List SlH)).length ((([ph42] : List SlH)).flatMap valI) :: .raw b33 (.mapIter (some b9) c2 (sn.push pb43) c2) :: .own 24 1 v7 rs.length (rs.flatMap valI) :: .own 9 1 v52 (ns ++ [pk41]).length ((ns ++ [pk41]).flatMap strC) :: .box pb [(str s), (i64 j17)] 55 :: .box b2 [(.pointer (some ⟨pb, 0, none⟩))] 53 :: .box b5 [(i64 d)] 3 :: .box b12 [(.map (some b9))] 106 :: .raw b9 (smobj l2 c2) :: .own 38 6 (.slice none 0 0) (([] : List Nd)).length ((([] : List Nd)).flatMap Nd.cells) :: Rs) := hS60
   replace hmap := hmap.mono hle61
   replace hsl46 := hsl46.mono hle61
   refine RL.append1 (f := valI) (l := rs) (y := ph42) hS60 (k := 2) rfl (.t rfl) (.t rfl) (hS60.sl (i := 0) rfl) Tryz.underlying47 Tryz.type24 rfl rfl rfl valI_one (by' := 24) rfl rfl (by omega) rfl (Hs' := fun v' => (.own 24 1 v57 (([ph42] : List SlH)).length ((([ph42] : List SlH)).flatMap valI) :: .raw b33 (.mapIter (some b9) c2 (sn.push pb43) c2) :: .own 24 1 v' (rs ++ [ph42]).length ((rs ++ [ph42]).flatMap valI) :: .own 9 1 v52 (ns ++ [pk41]).length ((ns ++ [pk41]).flatMap strC) :: .box pb [(str s), (i64 j17)] 55 :: .box b2 [(.pointer (some ⟨pb, 0, none⟩))] 53 :: .box b5 [(i64 d)] 3 :: .box b12 [(.map (some b9))] 106 :: .raw b9 (smobj l2 c2) :: .own 38 6 (.slice none 0 0) (([] : List Nd)).length ((([] : List Nd)).flatMap Nd.cells) :: Rs)) (fun _ => rfl) (fun v62 w63 M64 hS65 hle66 => ?_)
   replace hS65 := hS65.erase 0 rfl
   replace hmap := hmap.mono hle66
   replace hsl46 := hsl46.mono hle66
   refine RL.a rfl rfl (RL.a rfl rfl ?_)
   refine RL.nil fun a hs => Exists.intro ((ns ++ [pk41], xs ++ [px44], v52, v62, rs ++ [ph42], sn.push pb43, M64)) ⟨hs.keep [6, 7, 17], ?_, ?_⟩
   ·refine ⟨hS65, hmap, ?_⟩
    exact ⟨hvs.step hmap hk hp39 hns40 hm45, RowsV.snoc hsl46 (hro.mono ((((hle51.trans hle56).trans hle61).trans hle66))), ((((hle0.trans hle51).trans hle56).trans hle61).trans hle66)⟩
   ·have hvl := (hvs.step hmap hk hp39 hns40 hm45).le (M := Ml); simp only [List.length_append, List.length_cons, List.length_nil] at *; omega
  ·obtain ⟨hal1, hal2, hal3, hal4, hal5, hal6, hal7, hal8⟩ := hvs.all hmap hk hut hbo hall
   refine RL.u (.ex (.t rfl) rfl) rfl ?_
   refine RL.nil (CW.id ?_)
   refine CW.seq ?_
   refine CW.cond rfl (fun h => by cases h) (fun _ => ?_)
   refine CW.exit (CW.at [Y 6 v6, Y 7 v7] rfl ?_)
   refine CW.sr ?_
   refine RL.m rfl rfl (RL.m rfl rfl ?_)
   refine RL.callP Tryz.call76 (.cons (.t rfl) (.cons (.t rfl) .nil)) (vobject_c (Rs := (.raw b33 (.mapIter (some b9) c2 sn c2) :: .own 24 1 v7 rs.length (rs.flatMap valI) :: .own 9 1 v6 ns.length (ns.flatMap strC) :: .box pb [(str s), (i64 j17)] 55 :: .box b2 [(.pointer (some ⟨pb, 0, none⟩))] 53 :: .box b5 [(i64 d)] 3 :: .box b12 [(.map (some b9))] 106 :: .raw b9 (smobj l2 c2) :: .own 38 6 (.slice none 0 0) (([] : List Nd)).length ((([] : List Nd)).flatMap Nd.cells) :: Rs)) ns rs xs v6 v7 hS35 (hS35.sl (i := 2) rfl) (hS35.sl (i := 1) rfl) hro (by omega) hg hal3 hal4 hal5 (by omega) hal6 (by omega)) rfl ?_
   rintro v69 w70 ⟨a67, c68, M71, rfl, hsl_o, hS72, hle73⟩
   replace hS72 : St w M0 w70 M71 (.raw b33 (.mapIter (some b9) c2 sn c2) :: .own 24 1 v7 rs.length (rs.flatMap valI) :: .own 9 1 v6 ns.length (ns.flatMap strC) :: .box pb [(str s), (i64 j17)] 55 :: .box b2 [(.pointer (some ⟨pb, 0, none⟩))] 53 :: .box b5 [(i64 d)] 3 :: .box b12 [(.map (some b9))] 106 :: .raw b9 (smobj l2 c2) :: .own 38 6 (.slice none 0 0) (([] : List Nd)).length ((([] : List Nd)).flatMap Nd.cells) :: Rs) := hS72
   replace hmap := hmap.mono hle73
   refine RL.m rfl rfl (RL.u (.ex (.t rfl) rfl) rfl (RL.u (.ex (.t rfl) rfl) rfl (RL.a rfl rfl (RL.a rfl rfl ?_))))
   refine RL.nil (CW.at [Y 10 (.slice a67 (objV (ns.zip xs)).length c68)] rfl ?_)
   refine CW.sr ?_
   refine RL.m rfl rfl (RL.a rfl rfl ?_)
   refine RL.nil (CW.id ?_)
   refine CW.ret (hE.r1 rfl rfl ?_)
   have hslr := hsl_o
   replace hS72 : St w M0 w70 M71 (.raw b33 (.mapIter (some b9) c2 sn c2) :: .own 24 1 v7 rs.length (rs.flatMap valI) :: .own 9 1 v6 ns.length (ns.flatMap strC) :: .box pb [(str s), (i64 j17)] 55 :: .box b2 [(.pointer (some ⟨pb, 0, none⟩))] 53 :: .box b5 [(i64 d)] 3 :: .box b12 [((.map (some b9)))] 106 :: .raw b9 (smobj l2 c2) :: Rs) := hS72.erase 8 rfl
   replace hS72 : St w M0 w70 M71 (.raw b33 (.mapIter (some b9) c2 sn c2) :: .own 24 1 v7 rs.length (rs.flatMap valI) :: .own 9 1 v6 ns.length (ns.flatMap strC) :: .box pb [(str s), (i64 j17)] 55 :: .box b2 [(.pointer (some ⟨pb, 0, none⟩))] 53 :: .box b5 [(i64 d)] 3 :: .box b12 [((.map (some b9)))] 106 :: Rs) := hS72.erase 7 rfl
   replace hS72 : St w M0 w70 M71 (.raw b33 (.mapIter (some b9) c2 sn c2) :: .own 24 1 v7 rs.length (rs.flatMap valI) :: .own 9 1 v6 ns.length (ns.flatMap strC) :: .box pb [(str s), (i64 j17)] 55 :: .box b2 [(.pointer (some ⟨pb, 0, none⟩))] 53 :: .box b5 [(i64 d)] 3 :: Rs) := hS72.erase 6 rfl
   replace hS72 : St w M0 w70 M71 (.raw b33 (.mapIter (some b9) c2 sn c2) :: .own 24 1 v7 rs.length (rs.flatMap valI) :: .own 9 1 v6 ns.length (ns.flatMap strC) :: .box pb [(str s), (i64 j17)] 55 :: .box b2 [(.pointer (some ⟨pb, 0, none⟩))] 53 :: Rs) := hS72.erase 5 rfl
   replace hS72 : St w M0 w70 M71 (.raw b33 (.mapIter (some b9) c2 sn c2) :: .own 24 1 v7 rs.length (rs.flatMap valI) :: .own 9 1 v6 ns.length (ns.flatMap strC) :: .box pb [(str s), (i64 j17)] 55 :: Rs) := hS72.erase 4 rfl
   replace hS72 : St w M0 w70 M71 (.raw b33 (.mapIter (some b9) c2 sn c2) :: .own 24 1 v7 rs.length (rs.flatMap valI) :: .box pb [(str s), (i64 j17)] 55 :: Rs) := hS72.erase 2 rfl
   replace hS72 : St w M0 w70 M71 (.raw b33 (.mapIter (some b9) c2 sn c2) :: .box pb [(str s), (i64 j17)] 55 :: Rs) := hS72.erase 1 rfl
   replace hS72 : St w M0 w70 M71 (.box pb [(str s), (i64 j17)] 55 :: Rs) := hS72.erase 0 rfl
   have hole := objV_le hk
   rw [hal8] at hslr
   exact PPost.ok (show mapR _ _ = _ from by rw [hr21]; rfl) ⟨_, _, by rw [hal8], by omega, by omega, by omega, hslr, hS72⟩ (hle0.trans hle73)

end Go.Proofs.YtjfaikgooldcbaaGreatDoor
namespace Go.Proofs.YtjfaikgooldcbaaGreatDoor
open Go.Eng

theorem obj_ok {w : World} {M0 : Mem} (s : Str) (pb Fu : Nat) (hg : Gl w) (hb : len s ≤ 1099511627776) (hval : ∀ f, f < Fu → ValOK w M0 s pb f) : ObjOK w M0 s pb Fu :=
  fun i d hS h0 h1 hd hf => objectp_c s i d pb Fu hS h0 h1 hb hg hd hf hval
/-- value, at every fuel. -/
theorem val_all {w : World} {M0 : Mem} (s : Str) (pb : Nat) (hg : Gl w) (hb : len s ≤ 1099511627776) : ∀ f, ValOK w M0 s pb f := by
  intro f
  induction f using Nat.strongRecOn with
  | _ f ih =>
    cases f with
    | zero => intro Rs wv M i d hS h0 h1 hd0 hd1 hf; omega
    | succ f =>
      intro Rs wv M i d hS h0 h1 hd0 hd1 hf
      exact value_c s i d pb f hS h0 h1 hb hg ⟨hd0, hd1⟩ (by omega) (fun f2 h => ih f2 (by omega)) (obj_ok s pb f hg hb fun f2 h => ih f2 (by omega))
end Go.Proofs.YtjfaikgooldcbaaGreatDoor
