import Derived.Test.YthdialbnlnjgpaaGreatDoorEngL
import Derived.Laws.BitsLemmas
import Derived.Test.YthdialbnlnjgpaaGreatDoorPure
import Derived.Test.YthdialbnlnjgpaaGreatDoorProg
import Derived.Test.YthdialbnlnjgpaaGreatDoorR6
import Derived.Test.YthdialbnlnjgpaaGreatDoorR2
import Derived.Test.YthdialbnlnjgpaaGreatDoorToks
set_option linter.unusedVariables false
set_option linter.unusedSimpArgs false
namespace Go.Proofs.YthdialbnlnjgpaaGreatDoor
open Go.Eng

/- loupe/louperef08.word -/
set_option maxRecDepth 100000 in
theorem word8_c (s : Str) (i : Int) (w : World) (h0 : 0 ≤ i) (h1 : i ≤ len s) (hb : len s ≤ 1099511627776) :
  Calls Tryz.prog 34 [(str s), (i64 i)].toArray w fun e w' => e = .returned (i64 (wordEnd s i)) ∧ w' = w := by
 refine CW.enter Tryz.func34 rfl Tryz.ntmps34 (Nat.le_of_ble_eq_true rfl) ?_
 refine CW.weaken [0, 1] (L' := [Y 0 (str s), Y 1 (i64 i)]) ?_ rfl
 refine CW.sr ?_
 refine RL.u (.assign .c) rfl ?_
 refine RL.nil (CW.at [Y 0 (str s), Y 1 (i64 i)] rfl ?_)
 refine CW.sr ?_
 refine RL.m rfl rfl (RL.a rfl rfl ?_)
 refine RL.nil (CW.at [Y 0 (str s), Y 1 (i64 i), Y 5 (i64 i)] rfl ?_)
 refine CW.seq ?_
 refine CW.block ?_
 refine CW.loop (σ := Int) (fun k => [Y 0 (str s), Y 1 (i64 i), Y 5 (i64 k)]) (fun k wl => w = wl ∧ i ≤ k ∧ k ≤ len s ∧ WordAll s i k ∧ wordTo (from' s i) (k - i) = wordTo (from' s i) 0) (fun k => (len s - k).toNat) (i) [0, 1, 5] rfl ?_ ?_
 ·exact ⟨rfl, by omega, by omega, WordAll.start s i, by rw [Int.sub_self]⟩
 ·rintro k wl ⟨rfl, hk0, hk1, hA, hF⟩
  refine CW.seq ?_
  refine CW.sr ?_
  refine RL.m rfl rfl (RL.m rfl rfl (RL.u (.lenS (.t rfl) Tryz.underlying9) rfl (RL.u (.lss (.t rfl) (.t rfl)) rfl (RL.m rfl rfl (RL.v (.pos rfl rfl) (.move (.t rfl)) rfl ?_)))))
  refine RL.v (.pos rfl rfl) (.move (.t rfl)) rfl (RL.v (.pos rfl rfl) (.move (.t rfl)) rfl (RL.v (.pos rfl rfl) (.add (.g rfl (fun h => h)) .c (fun hW => by simp only [zb] at hW; omega)) rfl (RL.v (.pos rfl rfl) (.slS (.g rfl (fun h => h)) (.g rfl (fun h => h)) (.g rfl (fun h => h)) Tryz.underlying9 (fun hW => by simp only [zb] at hW; omega)) rfl ?_)))
  refine RL.callS (.pos rfl rfl) Tryz.call38 (.cons (.g rfl (fun h => h)) .nil) (fun hW => by simp only [zb] at hW; exact (word6_c (Eng.sub (s) (i) ((k) + (1))) _ (by first | omega | exact Int.le_trans (sub_bd _ _ _).2 (by omega)))) rfl ?_
  refine RL.u (.and (.t rfl) (.g rfl (fun h => h))) rfl ?_
  refine RL.nil (CW.at [Y 0 (str s), Y 1 (i64 i), Y 5 (i64 k), Y 18 (.bool ((decide ((k) < (len (s)))) && (word6 (Eng.sub (s) (i) ((k) + (1))))))] rfl ?_)
  refine CW.cond rfl (fun hb1 => ?_) (fun hb1 => ?_)
  ·try simp only [zb] at hb1
   refine CW.skip (CW.at [Y 0 (str s), Y 1 (i64 i), Y 5 (i64 k)] rfl ?_)
   refine CW.block ?_
   refine CW.region ?_
   refine RL.m rfl rfl (RL.u (.add (.t rfl) .c (fun _ => by omega)) rfl (RL.a rfl rfl ?_))
   refine RL.nil fun a hs => Exists.intro (k + 1) ⟨hs.keep [0, 1, 5], ?_, ?_⟩
   ·exact ⟨rfl, by omega, by omega, hA.step h0 hk0 hb1.1 hb1.2, by rw [wordEnd_step h0 hk0 hb1.1 hA hb1.2, hF]⟩
   ·show Int.toNat _ < Int.toNat _; omega
  ·try simp only [zb] at hb1
   refine CW.exit (CW.at [Y 5 (i64 k)] rfl ?_)
   refine CW.sr ?_
   refine RL.m rfl rfl (RL.a rfl rfl ?_)
   refine RL.nil (CW.at [Y 4 (i64 k)] rfl ?_)
   refine CW.ret (ret1 (P := Tryz.prog) (fn := Tryz.f34) (R := fun e w' => e = .returned (i64 (wordEnd s i)) ∧ w' = w) rfl rfl ?_)
   have hst := wordEnd_stop h0 hk0 hk1 hA (by grind)
   have hk : wordEnd s i = k := by unfold wordEnd; rw [← hF, hst]; omega
   exact ⟨by rw [hk], rfl⟩

/- loupe/louperef08.number -/
set_option maxRecDepth 100000 in
theorem number8_c (s : Str) (i : Int) (w : World) (h0 : 0 ≤ i) (h1 : i ≤ len s) (hb : len s ≤ 1099511627776) :
  Calls Tryz.prog 37 [(str s), (i64 i)].toArray w fun e w' => e = .returned (.agg ⟨(tkC ((numberR s i).1) ((i64 ((numberR s i).2.1)) :: ((i64 ((numberR s i).2.2)) :: [])))⟩) ∧ Ext w w' := by
 refine CW.enter Tryz.func37 rfl Tryz.ntmps37 (Nat.le_of_ble_eq_true rfl) ?_
 have hrb := read1_bd
 have hS : St w (fun _ _ => none) w (fun _ _ => none) [] := St.start ⟨fun _ _ _ h => by cases h⟩
 refine CW.weaken [0, 1] (L' := [Y 0 (str s), Y 1 (i64 i)]) ?_ rfl
 refine CW.sr ?_
 refine RL.alloc hS Tryz.zeroValue57 rfl (fun w1 b2 hS3 => ?_)
 replace hS3 : St w (fun _ _ => none) w1 (fun _ _ => none) [.box b2 [(i64 0), (str []), (i64 0), (i64 0), (str []), (str []), (.bool false), (i64 0), (i64 0), (i64 0), (i64 0)] 57] := hS3
 refine RL.nil (CW.at [Y 0 (str s), Y 1 (i64 i), Y 4 (.pointer (some ⟨b2, 0, none⟩))] rfl ?_)
 refine CW.sr ?_
 refine RL.m rfl rfl (RL.a rfl rfl ?_)
 refine RL.nil (CW.at [Y 0 (str s), Y 1 (i64 i), Y 4 (.pointer (some ⟨b2, 0, none⟩)), Y 5 (i64 i)] rfl ?_)
 refine CW.seq ?_
 refine CW.block ?_
 refine CW.loop (σ := Int) (fun k => [Y 0 (str s), Y 1 (i64 i), Y 4 (.pointer (some ⟨b2, 0, none⟩)), Y 5 (i64 k)]) (fun k wl => St w (fun _ _ => none) wl (fun _ _ => none) [.box b2 [(i64 0), (str []), (i64 0), (i64 0), (str []), (str []), (.bool false), (i64 0), (i64 0), (i64 0), (i64 0)] 57] ∧ i ≤ k ∧ k ≤ len s ∧ numTo s k = numTo s i) (fun k => (len s - k).toNat) (i) [0, 1, 4, 5] rfl ?_ ?_
 ·refine ⟨hS3, ?_⟩; exact ⟨by omega, by omega, rfl⟩
 ·rintro k wl ⟨hS4, hk0, hk1, hF⟩
  have hby := byteAt_bd s k
  refine CW.seq ?_
  refine CW.sr ?_
  refine RL.m rfl rfl (RL.m rfl rfl (RL.u (.lenS (.t rfl) Tryz.underlying9) rfl (RL.u (.lss (.t rfl) (.t rfl)) rfl (RL.m rfl rfl (RL.v (.pos rfl rfl) (.move (.t rfl)) rfl ?_)))))
  refine RL.v (.pos rfl rfl) (.move (.t rfl)) rfl (RL.v (.pos rfl rfl) (.idxS (.g rfl (fun h => h)) (.g rfl (fun h => h)) Tryz.underlying9 (fun hW => by simp only [zb] at hW; first | omega | (have hrb2 := hrb (Eng.sub s i k); have hsb := sub_bd s i k; omega))) rfl (RL.v (.pos rfl rfl) (.geq (.g rfl (fun h => h)) .c) rfl (RL.v (.pos rfl rfl) (.move (.g rfl (fun h => h))) rfl (RL.v (.posG rfl rfl) (.move (.t rfl)) rfl (RL.v (.posG rfl rfl) (.move (.t rfl)) rfl ?_)))))
  refine RL.v (.posG rfl rfl) (.idxS (.g rfl (fun h => h)) (.g rfl (fun h => h)) Tryz.underlying9 (fun hW => by simp only [zb] at hW; first | omega | (have hrb2 := hrb (Eng.sub s i k); have hsb := sub_bd s i k; omega))) rfl (RL.v (.posG rfl rfl) (.leq (.g rfl (fun h => h)) .c) rfl (RL.v (.pos rfl rfl) (.and (.g rfl (fun h => h)) (.g rfl (fun h => h))) rfl (RL.v (.pos rfl rfl) (.move (.g rfl (fun h => h))) rfl (RL.v (.negG rfl rfl) (.move (.t rfl)) rfl (RL.v (.negG rfl rfl) (.move (.t rfl)) rfl ?_)))))
  refine RL.v (.negG rfl rfl) (.idxS (.g rfl (fun h => h)) (.g rfl (fun h => h)) Tryz.underlying9 (fun hW => by simp only [zb] at hW; first | omega | (have hrb2 := hrb (Eng.sub s i k); have hsb := sub_bd s i k; omega))) rfl (RL.v (.negG rfl rfl) (.eql (.g rfl (fun h => h)) .c) rfl (RL.v (.pos rfl rfl) (.or (.g rfl (fun h => h)) (.g rfl (fun h => h))) rfl (RL.v (.pos rfl rfl) (.move (.g rfl (fun h => h))) rfl (RL.v (.negG rfl rfl) (.move (.t rfl)) rfl (RL.v (.negG rfl rfl) (.move (.t rfl)) rfl ?_)))))
  refine RL.v (.negG rfl rfl) (.idxS (.g rfl (fun h => h)) (.g rfl (fun h => h)) Tryz.underlying9 (fun hW => by simp only [zb] at hW; first | omega | (have hrb2 := hrb (Eng.sub s i k); have hsb := sub_bd s i k; omega))) rfl (RL.v (.negG rfl rfl) (.eql (.g rfl (fun h => h)) .c) rfl (RL.v (.pos rfl rfl) (.or (.g rfl (fun h => h)) (.g rfl (fun h => h))) rfl (RL.v (.pos rfl rfl) (.move (.g rfl (fun h => h))) rfl (RL.v (.negG rfl rfl) (.move (.t rfl)) rfl (RL.v (.negG rfl rfl) (.move (.t rfl)) rfl ?_)))))
  refine RL.v (.negG rfl rfl) (.idxS (.g rfl (fun h => h)) (.g rfl (fun h => h)) Tryz.underlying9 (fun hW => by simp only [zb] at hW; first | omega | (have hrb2 := hrb (Eng.sub s i k); have hsb := sub_bd s i k; omega))) rfl (RL.v (.negG rfl rfl) (.eql (.g rfl (fun h => h)) .c) rfl (RL.v (.pos rfl rfl) (.or (.g rfl (fun h => h)) (.g rfl (fun h => h))) rfl (RL.v (.pos rfl rfl) (.move (.g rfl (fun h => h))) rfl (RL.v (.negG rfl rfl) (.move (.t rfl)) rfl (RL.v (.negG rfl rfl) (.move (.t rfl)) rfl ?_)))))
  refine RL.v (.negG rfl rfl) (.idxS (.g rfl (fun h => h)) (.g rfl (fun h => h)) Tryz.underlying9 (fun hW => by simp only [zb] at hW; first | omega | (have hrb2 := hrb (Eng.sub s i k); have hsb := sub_bd s i k; omega))) rfl (RL.v (.negG rfl rfl) (.eql (.g rfl (fun h => h)) .c) rfl (RL.v (.pos rfl rfl) (.or (.g rfl (fun h => h)) (.g rfl (fun h => h))) rfl (RL.v (.pos rfl rfl) (.move (.g rfl (fun h => h))) rfl (RL.v (.negG rfl rfl) (.move (.t rfl)) rfl (RL.v (.negG rfl rfl) (.move (.t rfl)) rfl ?_)))))
  refine RL.v (.negG rfl rfl) (.idxS (.g rfl (fun h => h)) (.g rfl (fun h => h)) Tryz.underlying9 (fun hW => by simp only [zb] at hW; first | omega | (have hrb2 := hrb (Eng.sub s i k); have hsb := sub_bd s i k; omega))) rfl (RL.v (.negG rfl rfl) (.eql (.g rfl (fun h => h)) .c) rfl (RL.v (.pos rfl rfl) (.or (.g rfl (fun h => h)) (.g rfl (fun h => h))) rfl (RL.u (.and (.t rfl) (.g rfl (fun h => h))) rfl ?_)))
  refine RL.nil (CW.at [Y 0 (str s), Y 1 (i64 i), Y 4 (.pointer (some ⟨b2, 0, none⟩)), Y 5 (i64 k), Y 55 (.bool ((decide ((k) < (len (s)))) && (((((((decide ((48) ≤ (byteAt (s) (k)))) && (decide ((byteAt (s) (k)) ≤ (57)))) || ((byteAt (s) (k)) == (43))) || ((byteAt (s) (k)) == (45))) || ((byteAt (s) (k)) == (46))) || ((byteAt (s) (k)) == (101))) || ((byteAt (s) (k)) == (69)))))] rfl ?_)
  refine CW.cond rfl (fun hb1 => ?_) (fun hb1 => ?_)
  ·try simp only [zb] at hb1
   refine CW.skip (CW.at [Y 0 (str s), Y 1 (i64 i), Y 4 (.pointer (some ⟨b2, 0, none⟩)), Y 5 (i64 k)] rfl ?_)
   refine CW.block ?_
   refine CW.region ?_
   refine RL.m rfl rfl (RL.u (.add (.t rfl) .c (fun _ => by first | omega | (have hrb2 := hrb (Eng.sub s i k); have hsb := sub_bd s i k; omega))) rfl (RL.a rfl rfl ?_))
   refine RL.nil fun a hs => Exists.intro (k + 1) ⟨hs.keep [0, 1, 4, 5], ?_, ?_⟩
   ·refine ⟨hS4, ?_⟩
    exact ⟨by omega, by omega, by rw [← hF, numTo_step (by omega) hb1.1 (by omega)]⟩
   ·show Int.toNat _ < Int.toNat _; omega
  ·try simp only [zb] at hb1
   refine CW.exit (CW.at [Y 0 (str s), Y 1 (i64 i), Y 4 (.pointer (some ⟨b2, 0, none⟩)), Y 5 (i64 k)] rfl ?_)
   refine CW.sr ?_
   refine RL.m rfl rfl (RL.m rfl rfl (RL.m rfl rfl (RL.u (.slS (.t rfl) (.t rfl) (.t rfl) Tryz.underlying9 (fun _ => by first | omega | (have hrb2 := hrb (Eng.sub s i k); have hsb := sub_bd s i k; omega))) rfl ?_)))
   refine RL.callE hS4 .none Tryz.call69 (.cons (.t rfl) .nil) (fun _ => (read3_c (Eng.sub (s) (i) (k)) _ (by first | omega | exact Int.le_trans (sub_bd _ _ _).2 (by omega)))) rfl (fun w5 hS6 => ?_)
   refine RL.m rfl rfl (RL.u (.ex (.t rfl) rfl) rfl (RL.u (.ex (.t rfl) rfl) rfl (RL.u (.ex (.t rfl) rfl) rfl ?_)))
   refine RL.alloc hS6 Tryz.zeroValue31 rfl (fun w7 b8 hS9 => ?_)
   replace hS9 : St w (fun _ _ => none) w7 (fun _ _ => none) [.box b8 [(i64 0), (i64 0), (str []), (str []), (.bool false), (i64 0)] 31, .box b2 [(i64 0), (str []), (i64 0), (i64 0), (str []), (str []), (.bool false), (i64 0), (i64 0), (i64 0), (i64 0)] 57] := hS9
   refine RL.st hS9 (i := 0) rfl (.t rfl) (.t rfl) Tryz.sizeOf31 rfl rfl rfl (Hs' := [.box b8 (ndC ((read1 (Eng.sub (s) (i) (k))).1) []) 31, .box b2 [(i64 0), (str []), (i64 0), (i64 0), (str []), (str []), (.bool false), (i64 0), (i64 0), (i64 0), (i64 0)] 57]) rfl rfl (fun w10 hS11 => ?_)
   refine RL.a rfl rfl (RL.a rfl rfl ?_)
   refine RL.nil (CW.at [Y 1 (i64 i), Y 4 (.pointer (some ⟨b2, 0, none⟩)), Y 5 (i64 k), Y 6 (.pointer (some ⟨b8, 0, none⟩)), Y 7 (i64 ((read1 (Eng.sub (s) (i) (k))).2.1)), Y 8 (i64 ((read1 (Eng.sub (s) (i) (k))).2.2))] rfl ?_)
   refine CW.seq ?_
   refine CW.sr ?_
   refine RL.m rfl rfl (RL.u (.neq (.t rfl) .c) rfl ?_)
   refine RL.nil (CW.at [Y 1 (i64 i), Y 4 (.pointer (some ⟨b2, 0, none⟩)), Y 5 (i64 k), Y 6 (.pointer (some ⟨b8, 0, none⟩)), Y 7 (i64 ((read1 (Eng.sub (s) (i) (k))).2.1)), Y 8 (i64 ((read1 (Eng.sub (s) (i) (k))).2.2)), Y 68 (.bool (((read1 (Eng.sub (s) (i) (k))).2.2) != (0)))] rfl ?_)
   refine CW.cond rfl (fun hb2 => ?_) (fun hb2 => ?_)
   ·try simp only [zb] at hb2
    refine CW.sr ?_
    refine RL.m rfl rfl (RL.m rfl rfl (RL.u (.add (.t rfl) (.t rfl) (fun _ => by first | omega | (have hrb2 := hrb (Eng.sub s i k); have hsb := sub_bd s i k; omega))) rfl (RL.m rfl rfl (RL.u (.build (vs := [(1, (i64 ((i) + ((read1 (Eng.sub (s) (i) (k))).2.1)))), (2, (i64 ((read1 (Eng.sub (s) (i) (k))).2.2)))]) (v := (.agg #[(i64 0), (str []), (i64 0), (i64 0), (str []), (str []), (.bool false), (i64 0), (i64 0), (i64 ((i) + ((read1 (Eng.sub (s) (i) (k))).2.1))), (i64 ((read1 (Eng.sub (s) (i) (k))).2.2))])) (.cons (.t rfl) (.cons (.t rfl) .nil)) (fun w => by kernel_rfl)) rfl ?_))))
    refine RL.st hS11 (i := 1) rfl (.t rfl) (.t rfl) Tryz.sizeOf57 rfl rfl rfl (Hs' := [.box b8 (ndC ((read1 (Eng.sub (s) (i) (k))).1) []) 31, .box b2 [(i64 0), (str []), (i64 0), (i64 0), (str []), (str []), (.bool false), (i64 0), (i64 0), (i64 ((i) + ((read1 (Eng.sub (s) (i) (k))).2.1))), (i64 ((read1 (Eng.sub (s) (i) (k))).2.2))] 57]) rfl rfl (fun w12 hS13 => ?_)
    refine RL.nil (CW.at [Y 4 (.pointer (some ⟨b2, 0, none⟩))] rfl ?_)
    refine CW.ret (retR1 (P := Tryz.prog) (fn := Tryz.f37) (R := fun e w' => e = .returned (.agg ⟨(tkC ((numberR s i).1) ((i64 ((numberR s i).2.1)) :: ((i64 ((numberR s i).2.2)) :: [])))⟩) ∧ Ext w w') rfl (.boxN hS13 (i := 1) rfl rfl Tryz.isAgg57 Tryz.sizeOf57) ?_)
    have hk : numTo s i = k := by rw [← hF, numTo_stop (by omega) (by grind)]
    have hq : numberR s i = ((⟨0, [], ⟨0, 0, [], [], false, 0⟩, 0⟩ : Tk), (i) + ((read1 (Eng.sub (s) (i) (k))).2.1), (read1 (Eng.sub (s) (i) (k))).2.2) := by
     unfold numberR
     rw [hk, if_pos (by simpa using hb2)]
     try rfl
    rw [hq]; exact ⟨rfl, hS13.low⟩
   ·try simp only [zb] at hb2
    refine CW.skip (CW.at [Y 1 (i64 i), Y 4 (.pointer (some ⟨b2, 0, none⟩)), Y 5 (i64 k), Y 6 (.pointer (some ⟨b8, 0, none⟩))] rfl ?_)
    refine CW.sr ?_
    refine RL.u (.loadBN (vs := (ndC ((read1 (Eng.sub (s) (i) (k))).1) [])) hS11 extEq (i := 0) rfl (.t rfl) Tryz.isAgg31 Tryz.sizeOf31 rfl rfl) rfl (RL.m rfl rfl (RL.u (.build (vs := [(0, (i64 5)), (2, (ndV ((read1 (Eng.sub (s) (i) (k))).1))), (3, (i64 i))]) (v := (.agg ⟨((i64 5) :: ((str []) :: (ndC ((read1 (Eng.sub (s) (i) (k))).1) ((i64 i) :: []))))⟩)) (.cons .c (.cons (.t rfl) (.cons (.t rfl) .nil))) (fun w => by kernel_rfl)) rfl (RL.m rfl rfl (RL.u (.build (vs := [(0, (.agg ⟨((i64 5) :: ((str []) :: (ndC ((read1 (Eng.sub (s) (i) (k))).1) ((i64 i) :: []))))⟩)), (1, (i64 k))]) (v := (.agg ⟨((i64 5) :: ((str []) :: (ndC ((read1 (Eng.sub (s) (i) (k))).1) ((i64 i) :: ((i64 k) :: ((i64 0) :: []))))))⟩)) (.cons (.t rfl) (.cons (.t rfl) .nil)) (fun w => by kernel_rfl)) rfl ?_))))
    refine RL.st hS11 (i := 1) rfl (.t rfl) (.t rfl) Tryz.sizeOf57 rfl rfl rfl (Hs' := [.box b8 (ndC ((read1 (Eng.sub (s) (i) (k))).1) []) 31, .box b2 ((i64 5) :: ((str []) :: (ndC ((read1 (Eng.sub (s) (i) (k))).1) ((i64 i) :: ((i64 k) :: ((i64 0) :: [])))))) 57]) rfl rfl (fun w14 hS15 => ?_)
    refine RL.nil (CW.at [Y 4 (.pointer (some ⟨b2, 0, none⟩))] rfl ?_)
    refine CW.ret (retR1 (P := Tryz.prog) (fn := Tryz.f37) (R := fun e w' => e = .returned (.agg ⟨(tkC ((numberR s i).1) ((i64 ((numberR s i).2.1)) :: ((i64 ((numberR s i).2.2)) :: [])))⟩) ∧ Ext w w') rfl (.boxN hS15 (i := 1) rfl rfl Tryz.isAgg57 Tryz.sizeOf57) ?_)
    have hk : numTo s i = k := by rw [← hF, numTo_stop (by omega) (by grind)]
    have hq : numberR s i = ((⟨5, [], (read1 (Eng.sub (s) (i) (k))).1, i⟩ : Tk), k, 0) := by
     unfold numberR
     rw [hk, if_neg (by simpa using hb2)]
     try rfl
    rw [hq]; exact ⟨rfl, hS15.low⟩

/- loupe/louperef08.text -/
set_option maxRecDepth 100000 in
theorem text8_c (s : Str) (i kind a : Int) (w : World) (h0 : 0 ≤ i) (h1 : i ≤ len s) (hb : len s ≤ 1099511627776) :
  Calls Tryz.prog 35 [(str s), (i64 i), (i64 kind), (i64 a)].toArray w fun e w' => e = .returned (.agg ⟨(tkC ((textR8 s i kind a).1) ((i64 ((textR8 s i kind a).2.1)) :: ((i64 ((textR8 s i kind a).2.2)) :: [])))⟩) ∧ Ext w w' := by
 refine CW.enter Tryz.func35 rfl Tryz.ntmps35 (Nat.le_of_ble_eq_true rfl) ?_
 have hub := unqP_bd (from' s i)
 have hl := from_len s i h0 h1
 have hS : St w (fun _ _ => none) w (fun _ _ => none) [] := St.start ⟨fun _ _ _ h => by cases h⟩
 refine CW.weaken [0, 1, 2, 3] (L' := [Y 0 (str s), Y 1 (i64 i), Y 2 (i64 kind), Y 3 (i64 a)]) ?_ rfl
 refine CW.sr ?_
 refine RL.alloc hS Tryz.zeroValue57 rfl (fun w1 b2 hS3 => ?_)
 replace hS3 : St w (fun _ _ => none) w1 (fun _ _ => none) [.box b2 [(i64 0), (str []), (i64 0), (i64 0), (str []), (str []), (.bool false), (i64 0), (i64 0), (i64 0), (i64 0)] 57] := hS3
 refine RL.nil (CW.at [Y 0 (str s), Y 1 (i64 i), Y 2 (i64 kind), Y 3 (i64 a), Y 8 (.pointer (some ⟨b2, 0, none⟩))] rfl ?_)
 refine CW.sr ?_
 refine RL.m rfl rfl (RL.m rfl rfl (RL.u (.slSl (.t rfl) (.t rfl) Tryz.underlying9 (fun _ => by omega)) rfl ?_))
 refine RL.callE hS3 .none Tryz.call68 (.cons (.t rfl) .nil) (fun _ => (unquote3_c (Eng.from' (s) (i)) _ (by first | omega | exact Int.le_trans (from_bd _ _).2 (by omega)))) rfl (fun w4 hS5 => ?_)
 refine RL.m rfl rfl (RL.u (.ex (.t rfl) rfl) rfl (RL.u (.ex (.t rfl) rfl) rfl (RL.u (.ex (.t rfl) rfl) rfl (RL.a rfl rfl (RL.a rfl rfl ?_)))))
 refine RL.a rfl rfl ?_
 refine RL.nil (CW.at [Y 1 (i64 i), Y 2 (i64 kind), Y 3 (i64 a), Y 8 (.pointer (some ⟨b2, 0, none⟩)), Y 9 (str ((unqP (Eng.from' (s) (i))).1)), Y 10 (i64 ((unqP (Eng.from' (s) (i))).2.1)), Y 11 (i64 ((unqP (Eng.from' (s) (i))).2.2))] rfl ?_)
 refine CW.seq ?_
 refine CW.sr ?_
 refine RL.m rfl rfl (RL.u (.neq (.t rfl) .c) rfl ?_)
 refine RL.nil (CW.at [Y 1 (i64 i), Y 2 (i64 kind), Y 3 (i64 a), Y 8 (.pointer (some ⟨b2, 0, none⟩)), Y 9 (str ((unqP (Eng.from' (s) (i))).1)), Y 10 (i64 ((unqP (Eng.from' (s) (i))).2.1)), Y 11 (i64 ((unqP (Eng.from' (s) (i))).2.2)), Y 21 (.bool (((unqP (Eng.from' (s) (i))).2.2) != (0)))] rfl ?_)
 refine CW.cond rfl (fun hb1 => ?_) (fun hb1 => ?_)
 ·try simp only [zb] at hb1
  refine CW.sr ?_
  refine RL.m rfl rfl (RL.m rfl rfl (RL.u (.add (.t rfl) (.t rfl) (fun _ => by omega)) rfl (RL.m rfl rfl (RL.u (.build (vs := [(1, (i64 ((i) + ((unqP (Eng.from' (s) (i))).2.1)))), (2, (i64 ((unqP (Eng.from' (s) (i))).2.2)))]) (v := (.agg #[(i64 0), (str []), (i64 0), (i64 0), (str []), (str []), (.bool false), (i64 0), (i64 0), (i64 ((i) + ((unqP (Eng.from' (s) (i))).2.1))), (i64 ((unqP (Eng.from' (s) (i))).2.2))])) (.cons (.t rfl) (.cons (.t rfl) .nil)) (fun w => by kernel_rfl)) rfl ?_))))
  refine RL.st hS5 (i := 0) rfl (.t rfl) (.t rfl) Tryz.sizeOf57 rfl rfl rfl (Hs' := [.box b2 [(i64 0), (str []), (i64 0), (i64 0), (str []), (str []), (.bool false), (i64 0), (i64 0), (i64 ((i) + ((unqP (Eng.from' (s) (i))).2.1))), (i64 ((unqP (Eng.from' (s) (i))).2.2))] 57]) rfl rfl (fun w6 hS7 => ?_)
  refine RL.nil (CW.at [Y 8 (.pointer (some ⟨b2, 0, none⟩))] rfl ?_)
  refine CW.ret (retR1 (P := Tryz.prog) (fn := Tryz.f35) (R := fun e w' => e = .returned (.agg ⟨(tkC ((textR8 s i kind a).1) ((i64 ((textR8 s i kind a).2.1)) :: ((i64 ((textR8 s i kind a).2.2)) :: [])))⟩) ∧ Ext w w') rfl (.boxN hS7 (i := 0) rfl rfl Tryz.isAgg57 Tryz.sizeOf57) ?_)
  have hq : textR8 s i kind a = ((⟨0, [], ⟨0, 0, [], [], false, 0⟩, 0⟩ : Tk), (i) + ((unqP (Eng.from' (s) (i))).2.1), (unqP (Eng.from' (s) (i))).2.2) := by
   unfold textR8
   rw [if_pos (by simpa using hb1)]
   try rfl
  rw [hq]; exact ⟨rfl, hS7.low⟩
 ·try simp only [zb] at hb1
  refine CW.skip (CW.at [Y 1 (i64 i), Y 2 (i64 kind), Y 3 (i64 a), Y 8 (.pointer (some ⟨b2, 0, none⟩)), Y 9 (str ((unqP (Eng.from' (s) (i))).1)), Y 10 (i64 ((unqP (Eng.from' (s) (i))).2.1))] rfl ?_)
  refine CW.sr ?_
  refine RL.m rfl rfl (RL.m rfl rfl (RL.m rfl rfl (RL.u (.build (vs := [(0, (i64 kind)), (1, (str ((unqP (Eng.from' (s) (i))).1))), (3, (i64 a))]) (v := (.agg #[(i64 kind), (str ((unqP (Eng.from' (s) (i))).1)), (i64 0), (i64 0), (str []), (str []), (.bool false), (i64 0), (i64 a)])) (.cons (.t rfl) (.cons (.t rfl) (.cons (.t rfl) .nil))) (fun w => by kernel_rfl)) rfl (RL.m rfl rfl (RL.m rfl rfl ?_)))))
  refine RL.u (.add (.t rfl) (.t rfl) (fun _ => by omega)) rfl (RL.u (.build (vs := [(0, (.agg #[(i64 kind), (str ((unqP (Eng.from' (s) (i))).1)), (i64 0), (i64 0), (str []), (str []), (.bool false), (i64 0), (i64 a)])), (1, (i64 ((i) + ((unqP (Eng.from' (s) (i))).2.1))))]) (v := (.agg #[(i64 kind), (str ((unqP (Eng.from' (s) (i))).1)), (i64 0), (i64 0), (str []), (str []), (.bool false), (i64 0), (i64 a), (i64 ((i) + ((unqP (Eng.from' (s) (i))).2.1))), (i64 0)])) (.cons (.t rfl) (.cons (.t rfl) .nil)) (fun w => by kernel_rfl)) rfl ?_)
  refine RL.st hS5 (i := 0) rfl (.t rfl) (.t rfl) Tryz.sizeOf57 rfl rfl rfl (Hs' := [.box b2 [(i64 kind), (str ((unqP (Eng.from' (s) (i))).1)), (i64 0), (i64 0), (str []), (str []), (.bool false), (i64 0), (i64 a), (i64 ((i) + ((unqP (Eng.from' (s) (i))).2.1))), (i64 0)] 57]) rfl rfl (fun w8 hS9 => ?_)
  refine RL.nil (CW.at [Y 8 (.pointer (some ⟨b2, 0, none⟩))] rfl ?_)
  refine CW.ret (retR1 (P := Tryz.prog) (fn := Tryz.f35) (R := fun e w' => e = .returned (.agg ⟨(tkC ((textR8 s i kind a).1) ((i64 ((textR8 s i kind a).2.1)) :: ((i64 ((textR8 s i kind a).2.2)) :: [])))⟩) ∧ Ext w w') rfl (.boxN hS9 (i := 0) rfl rfl Tryz.isAgg57 Tryz.sizeOf57) ?_)
  have hq : textR8 s i kind a = ((⟨kind, (unqP (Eng.from' (s) (i))).1, ⟨0, 0, [], [], false, 0⟩, a⟩ : Tk), (i) + ((unqP (Eng.from' (s) (i))).2.1), 0) := by
   unfold textR8
   rw [if_neg (by simpa using hb1)]
   try rfl
  rw [hq]; exact ⟨rfl, hS9.low⟩

/- loupe/louperef08.token -/
set_option maxRecDepth 100000 in
theorem token8_c (s : Str) (i : Int) (w : World) (h0 : 0 ≤ i) (h1 : i < len s) (hb : len s ≤ 1099511627776) :
  Calls Tryz.prog 18 [(str s), (i64 i)].toArray w fun e w' => e = .returned (.agg ⟨(tkC ((gotOf (tokP (from' s i)) i).1) ((i64 ((gotOf (tokP (from' s i)) i).2.1)) :: ((i64 ((gotOf (tokP (from' s i)) i).2.2)) :: [])))⟩) ∧ Ext w w' := by
 refine CW.enter Tryz.func18 rfl Tryz.ntmps18 (Nat.le_of_ble_eq_true rfl) ?_
 have hm17 : len marks8 = 17 := rfl
 have hwe1 := wordEnd_bd (s := s) (i := i + 1) (by omega) (by omega)
 have hwe0 := wordEnd_bd (s := s) (i := i) h0 (by omega)
 have hS : St w (fun _ _ => none) w (fun _ _ => none) [] := St.start ⟨fun _ _ _ h => by cases h⟩
 refine CW.weaken [0, 1] (L' := [Y 0 (str s), Y 1 (i64 i)]) ?_ rfl
 refine CW.sr ?_
 refine RL.alloc hS Tryz.zeroValue57 rfl (fun w1 b2 hS3 => ?_)
 replace hS3 : St w (fun _ _ => none) w1 (fun _ _ => none) [.box b2 [(i64 0), (str []), (i64 0), (i64 0), (str []), (str []), (.bool false), (i64 0), (i64 0), (i64 0), (i64 0)] 57] := hS3
 refine RL.nil (CW.at [Y 0 (str s), Y 1 (i64 i), Y 4 (.pointer (some ⟨b2, 0, none⟩))] rfl ?_)
 refine CW.seq ?_
 refine CW.sr ?_
 refine RL.m rfl rfl (RL.m rfl rfl ?_)
 refine RL.callS .none Tryz.call33 (.cons (.t rfl) (.cons (.t rfl) (.cons .c .nil))) (fun _ => (has8_c (s) (i) ([46]) _ (by omega) (by first | omega | (simp only [len_cons, len_nil]; omega)))) rfl ?_
 refine RL.nil (CW.at [Y 0 (str s), Y 1 (i64 i), Y 4 (.pointer (some ⟨b2, 0, none⟩)), Y 11 (.bool (hasAt (s) (i) ([46])))] rfl ?_)
 refine CW.cond rfl (fun hb1 => ?_) (fun hb1 => ?_)
 ·try simp only [zb] at hb1
  have hd := (hasAt_dot h0 h1).1 hb1
  refine CW.sr ?_
  refine RL.m rfl rfl (RL.m rfl rfl (RL.u (.add (.t rfl) .c (fun _ => by omega)) rfl ?_))
  refine RL.callS .none Tryz.call34 (.cons (.t rfl) (.cons (.t rfl) .nil)) (fun _ => (word8_c (s) ((i) + (1)) _ (by omega) (by omega) (by omega))) rfl ?_
  refine RL.a rfl rfl ?_
  refine RL.nil (CW.at [Y 0 (str s), Y 1 (i64 i), Y 4 (.pointer (some ⟨b2, 0, none⟩)), Y 5 (i64 (wordEnd (s) ((i) + (1))))] rfl ?_)
  refine CW.seq ?_
  refine CW.sr ?_
  refine RL.m rfl rfl (RL.m rfl rfl (RL.u (.add (.t rfl) .c (fun _ => by omega)) rfl (RL.u (.gtr (.t rfl) (.t rfl)) rfl ?_)))
  refine RL.nil (CW.at [Y 0 (str s), Y 1 (i64 i), Y 4 (.pointer (some ⟨b2, 0, none⟩)), Y 5 (i64 (wordEnd (s) ((i) + (1)))), Y 19 (.bool (decide (((i) + (1)) < (wordEnd (s) ((i) + (1))))))] rfl ?_)
  refine CW.cond rfl (fun hb2 => ?_) (fun hb2 => ?_)
  ·try simp only [zb] at hb2
   refine CW.sr ?_
   refine RL.m rfl rfl (RL.m rfl rfl (RL.u (.add (.t rfl) .c (fun _ => by omega)) rfl (RL.m rfl rfl (RL.u (.slS (.t rfl) (.t rfl) (.t rfl) Tryz.underlying9 (fun _ => by omega)) rfl (RL.m rfl rfl ?_)))))
   refine RL.u (.build (vs := [(0, (i64 3)), (1, (str (Eng.sub (s) ((i) + (1)) (wordEnd (s) ((i) + (1)))))), (3, (i64 i))]) (v := (.agg #[(i64 3), (str (Eng.sub (s) ((i) + (1)) (wordEnd (s) ((i) + (1))))), (i64 0), (i64 0), (str []), (str []), (.bool false), (i64 0), (i64 i)])) (.cons .c (.cons (.t rfl) (.cons (.t rfl) .nil))) (fun w => by kernel_rfl)) rfl (RL.m rfl rfl (RL.u (.build (vs := [(0, (.agg #[(i64 3), (str (Eng.sub (s) ((i) + (1)) (wordEnd (s) ((i) + (1))))), (i64 0), (i64 0), (str []), (str []), (.bool false), (i64 0), (i64 i)])), (1, (i64 (wordEnd (s) ((i) + (1)))))]) (v := (.agg #[(i64 3), (str (Eng.sub (s) ((i) + (1)) (wordEnd (s) ((i) + (1))))), (i64 0), (i64 0), (str []), (str []), (.bool false), (i64 0), (i64 i), (i64 (wordEnd (s) ((i) + (1)))), (i64 0)])) (.cons (.t rfl) (.cons (.t rfl) .nil)) (fun w => by kernel_rfl)) rfl ?_))
   refine RL.st hS3 (i := 0) rfl (.t rfl) (.t rfl) Tryz.sizeOf57 rfl rfl rfl (Hs' := [.box b2 [(i64 3), (str (Eng.sub (s) ((i) + (1)) (wordEnd (s) ((i) + (1))))), (i64 0), (i64 0), (str []), (str []), (.bool false), (i64 0), (i64 i), (i64 (wordEnd (s) ((i) + (1)))), (i64 0)] 57]) rfl rfl (fun w4 hS5 => ?_)
   refine RL.nil (CW.at [Y 4 (.pointer (some ⟨b2, 0, none⟩))] rfl ?_)
   refine CW.ret (retR1 (P := Tryz.prog) (fn := Tryz.f18) (R := fun e w' => e = .returned (.agg ⟨(tkC ((gotOf (tokP (from' s i)) i).1) ((i64 ((gotOf (tokP (from' s i)) i).2.1)) :: ((i64 ((gotOf (tokP (from' s i)) i).2.2)) :: [])))⟩) ∧ Ext w w') rfl (.boxN hS5 (i := 0) rfl rfl Tryz.isAgg57 Tryz.sizeOf57) ?_)
   rw [tok_field h0 h1 hd hb2]; exact ⟨rfl, hS5.low⟩
  ·try simp only [zb] at hb2
   refine CW.skip (CW.at [Y 0 (str s), Y 1 (i64 i), Y 4 (.pointer (some ⟨b2, 0, none⟩))] rfl ?_)
   refine CW.sr ?_
   refine RL.m rfl rfl (RL.m rfl rfl (RL.u (.add (.t rfl) .c (fun _ => by omega)) rfl ?_))
   refine RL.callS .none Tryz.call33 (.cons (.t rfl) (.cons (.t rfl) (.cons .c .nil))) (fun _ => (has8_c (s) ((i) + (1)) ([34]) _ (by omega) (by first | omega | (simp only [len_cons, len_nil]; omega)))) rfl ?_
   refine RL.nil (CW.at [Y 0 (str s), Y 1 (i64 i), Y 4 (.pointer (some ⟨b2, 0, none⟩)), Y 32 (.bool (hasAt (s) ((i) + (1)) ([34])))] rfl ?_)
   refine CW.cond rfl (fun hb3 => ?_) (fun hb3 => ?_)
   ·try simp only [zb] at hb3
    refine CW.sr ?_
    refine RL.m rfl rfl (RL.m rfl rfl (RL.u (.add (.t rfl) .c (fun _ => by omega)) rfl (RL.m rfl rfl ?_)))
    refine RL.callE hS3 .none Tryz.call35 (.cons (.t rfl) (.cons (.t rfl) (.cons .c (.cons (.t rfl) .nil)))) (fun _ => (text8_c (s) ((i) + (1)) (3) (i) _ (by omega) (by omega) (by omega))) rfl (fun w6 hS7 => ?_)
    refine RL.st hS7 (i := 0) rfl (.t rfl) (.t rfl) Tryz.sizeOf57 rfl rfl rfl (Hs' := [.box b2 (tkC ((textR8 (s) ((i) + (1)) (3) (i)).1) ((i64 ((textR8 (s) ((i) + (1)) (3) (i)).2.1)) :: ((i64 ((textR8 (s) ((i) + (1)) (3) (i)).2.2)) :: []))) 57]) rfl rfl (fun w8 hS9 => ?_)
    refine RL.nil (CW.at [Y 4 (.pointer (some ⟨b2, 0, none⟩))] rfl ?_)
    refine CW.ret (retR1 (P := Tryz.prog) (fn := Tryz.f18) (R := fun e w' => e = .returned (.agg ⟨(tkC ((gotOf (tokP (from' s i)) i).1) ((i64 ((gotOf (tokP (from' s i)) i).2.1)) :: ((i64 ((gotOf (tokP (from' s i)) i).2.2)) :: [])))⟩) ∧ Ext w w') rfl (.boxN hS9 (i := 0) rfl rfl Tryz.isAgg57 Tryz.sizeOf57) ?_)
    rw [tok_fieldtext h0 h1 hd (by omega) hb3]; exact ⟨rfl, hS9.low⟩
   ·try simp only [zb] at hb3
    have hN : NoDot s i := .inr ⟨by omega, hb3⟩
    refine CW.skip (CW.at [Y 0 (str s), Y 1 (i64 i), Y 4 (.pointer (some ⟨b2, 0, none⟩))] rfl ?_)
    refine CW.sr ?_
    refine RL.callM hS3 Tryz.call36 .nil ((marks8_c (fun _ _ => none) _ hS3.sat)) rfl ?_
    rintro v10 w11 M12 hS13 hle14 hsl_v10
    refine RL.a rfl rfl ?_
    refine RL.nil (CW.at [Y 0 (str s), Y 1 (i64 i), Y 4 (.pointer (some ⟨b2, 0, none⟩)), Y 6 (v10)] rfl ?_)
    refine CW.seq ?_
    refine CW.sr ?_
    refine RL.u (.assign .c) rfl ?_
    refine RL.nil (CW.at [Y 0 (str s), Y 1 (i64 i), Y 4 (.pointer (some ⟨b2, 0, none⟩)), Y 6 (v10), Y 7 (i64 0)] rfl ?_)
    refine CW.block ?_
    refine CW.loop (σ := Int) (fun k => [Y 0 (str s), Y 1 (i64 i), Y 4 (.pointer (some ⟨b2, 0, none⟩)), Y 6 (v10), Y 7 (i64 k)]) (fun k wl => St w (fun _ _ => none) wl M12 [.box b2 [(i64 0), (str []), (i64 0), (i64 0), (str []), (str []), (.bool false), (i64 0), (i64 0), (i64 0), (i64 0)] 57] ∧ Sl M12 1 (marks8).length (v10) ((marks8).flatMap strC) ∧ 0 ≤ k ∧ k ≤ 17 ∧ NoMark s i k) (fun k => (17 - k).toNat) (0) [0, 1, 4, 6, 7] rfl ?_ ?_
    ·refine ⟨hS13, hsl_v10, ?_⟩; exact ⟨by omega, by omega, NoMark.start s i⟩
    ·rintro k wl ⟨hS16, hsl_v10, hk0, hk1, hM⟩
     have hml := fun h => mark_len hk0 (k := k) h
     have hmn := fun h => hM.none' (s := s) (i := i) (k := k) h
     refine CW.seq ?_
     refine CW.sr ?_
     refine RL.m rfl rfl (RL.m rfl rfl (RL.u (.lenT hsl_v10 (.t rfl) ⟨_, Tryz.underlying60⟩) rfl (RL.u (.lss (.t rfl) (.t rfl)) rfl ?_)))
     refine RL.nil (CW.at [Y 0 (str s), Y 1 (i64 i), Y 4 (.pointer (some ⟨b2, 0, none⟩)), Y 6 (v10), Y 7 (i64 k), Y 42 (.bool (decide ((k) < (len (marks8)))))] rfl ?_)
     refine CW.cond rfl (fun hb4 => ?_) (fun hb4 => ?_)
     ·try simp only [zb] at hb4
      refine CW.skip (CW.at [Y 0 (str s), Y 1 (i64 i), Y 4 (.pointer (some ⟨b2, 0, none⟩)), Y 6 (v10), Y 7 (i64 k)] rfl ?_)
      refine CW.seq ?_
      refine CW.block ?_
      refine CW.sr ?_
      refine RL.m rfl rfl (RL.m rfl rfl (RL.m rfl rfl (RL.m rfl rfl (RL.u (.idxT hsl_v10 (.t rfl) (.t rfl) Tryz.underlying60 Tryz.sizeOf9 (fun _ => by omega)) rfl (RL.u (.loadE1 (f := strC) (i := k) (j := 0) (u := (str (at' (marks8) (k)))) hS16 extEq hsl_v10 strC_len (.t rfl) Tryz.isAgg9 (fun _ => by omega) rfl rfl) rfl ?_)))))
      refine RL.callS .none Tryz.call33 (.cons (.t rfl) (.cons (.t rfl) (.cons (.t rfl) .nil))) (fun _ => (has8_c (s) (i) (at' (marks8) (k)) _ (by omega) (by first | omega | (simp only [len_cons, len_nil]; omega)))) rfl ?_
      refine RL.nil (CW.at [Y 0 (str s), Y 1 (i64 i), Y 4 (.pointer (some ⟨b2, 0, none⟩)), Y 6 (v10), Y 7 (i64 k), Y 51 (.bool (hasAt (s) (i) (at' (marks8) (k))))] rfl ?_)
      refine CW.cond rfl (fun hb5 => ?_) (fun hb5 => ?_)
      ·try simp only [zb] at hb5
       refine CW.seq ?_
       refine CW.regionT 14 hS16 tryz_mixed (by decide +kernel) (fun w17 hS18 => ?_)
       refine RS.v .none (.move (.t rfl)) rfl ?_
       refine RS.v .none (.move (.t rfl)) rfl ?_
       refine RS.v .none (.idxT hsl_v10 (.t rfl) (.t rfl) Tryz.underlying60 Tryz.sizeOf9 (fun _ => by omega)) rfl ?_
       refine RS.v .none (.loadE1 (f := strC) (i := k) (j := 0) (u := (str (at' (marks8) (k)))) hS18 extEq hsl_v10 strC_len (.t rfl) Tryz.isAgg9 (fun _ => by omega) rfl rfl) rfl ?_
       refine RS.v .none (.move (.t rfl)) rfl ?_
       refine RS.v .none (.build (vs := [(0, (i64 1)), (1, (str (at' (marks8) (k)))), (3, (i64 i))]) (v := (.agg #[(i64 1), (str (at' (marks8) (k))), (i64 0), (i64 0), (str []), (str []), (.bool false), (i64 0), (i64 i)])) (.cons .c (.cons (.t rfl) (.cons (.t rfl) .nil))) (fun w => by kernel_rfl)) rfl ?_
       refine RS.v .none (.move (.t rfl)) rfl ?_
       refine RS.v .none (.move (.t rfl)) rfl ?_
       refine RS.v .none (.move (.t rfl)) rfl ?_
       refine RS.v .none (.idxT hsl_v10 (.t rfl) (.t rfl) Tryz.underlying60 Tryz.sizeOf9 (fun _ => by omega)) rfl ?_
       refine RS.v .none (.loadE1 (f := strC) (i := k) (j := 0) (u := (str (at' (marks8) (k)))) hS18 extEq hsl_v10 strC_len (.t rfl) Tryz.isAgg9 (fun _ => by omega) rfl rfl) rfl ?_
       refine RS.v .none (.lenS (.t rfl) Tryz.underlying9) rfl ?_
       refine RS.v .none (.add (.t rfl) (.t rfl) (fun _ => by omega)) rfl ?_
       refine RS.v .none (.build (vs := [(0, (.agg #[(i64 1), (str (at' (marks8) (k))), (i64 0), (i64 0), (str []), (str []), (.bool false), (i64 0), (i64 i)])), (1, (i64 ((i) + (len (at' (marks8) (k))))))]) (v := (.agg #[(i64 1), (str (at' (marks8) (k))), (i64 0), (i64 0), (str []), (str []), (.bool false), (i64 0), (i64 i), (i64 ((i) + (len (at' (marks8) (k))))), (i64 0)])) (.cons (.t rfl) (.cons (.t rfl) .nil)) (fun w => by kernel_rfl)) rfl ?_
       refine RS.nil ?_
       refine RL.st hS18 (i := 0) rfl (.t rfl) (.t rfl) Tryz.sizeOf57 rfl rfl rfl (Hs' := [.box b2 [(i64 1), (str (at' (marks8) (k))), (i64 0), (i64 0), (str []), (str []), (.bool false), (i64 0), (i64 i), (i64 ((i) + (len (at' (marks8) (k))))), (i64 0)] 57]) rfl rfl (fun w19 hS20 => ?_)
       refine RL.nil (CW.at [Y 4 (.pointer (some ⟨b2, 0, none⟩))] rfl ?_)
       refine CW.ret (retR1 (P := Tryz.prog) (fn := Tryz.f18) (R := fun e w' => e = .returned (.agg ⟨(tkC ((gotOf (tokP (from' s i)) i).1) ((i64 ((gotOf (tokP (from' s i)) i).2.1)) :: ((i64 ((gotOf (tokP (from' s i)) i).2.2)) :: [])))⟩) ∧ Ext w w') rfl (.boxN hS20 (i := 0) rfl rfl Tryz.isAgg57 Tryz.sizeOf57) ?_)
       have hmk := hM.found h0 (by omega) hk0 (by omega) hb5
       rw [tok_mark h0 h1 hN hmk (mark_ne hk0 (by omega))]; exact ⟨rfl, hS20.low⟩
      ·try simp only [zb] at hb5
       refine CW.skip (CW.at [Y 0 (str s), Y 1 (i64 i), Y 4 (.pointer (some ⟨b2, 0, none⟩)), Y 6 (v10), Y 7 (i64 k)] rfl ?_)
       refine CW.region ?_
       refine RL.m rfl rfl (RL.u (.add (.t rfl) .c (fun _ => by omega)) rfl (RL.a rfl rfl ?_))
       refine RL.nil fun a hs => Exists.intro (k + 1) ⟨hs.keep [0, 1, 4, 6, 7], ?_, ?_⟩
       ·refine ⟨hS16, hsl_v10, ?_⟩
        exact ⟨by omega, by omega, hM.step h0 (by omega) hk0 (by omega) (by simpa using hb5)⟩
       ·show Int.toNat _ < Int.toNat _; omega
     ·try simp only [zb] at hb4
      refine CW.exit (CW.at [Y 0 (str s), Y 1 (i64 i), Y 4 (.pointer (some ⟨b2, 0, none⟩))] rfl ?_)
      refine CW.sr ?_
      refine RL.m rfl rfl (RL.m rfl rfl ?_)
      refine RL.callS .none Tryz.call34 (.cons (.t rfl) (.cons (.t rfl) .nil)) (fun _ => (word8_c (s) (i) _ (by omega) (by omega) (by omega))) rfl ?_
      refine RL.a rfl rfl ?_
      refine RL.nil (CW.at [Y 0 (str s), Y 1 (i64 i), Y 4 (.pointer (some ⟨b2, 0, none⟩)), Y 8 (i64 (wordEnd (s) (i)))] rfl ?_)
      refine CW.seq ?_
      refine CW.sr ?_
      refine RL.m rfl rfl (RL.m rfl rfl (RL.u (.gtr (.t rfl) (.t rfl)) rfl ?_))
      refine RL.nil (CW.at [Y 0 (str s), Y 1 (i64 i), Y 4 (.pointer (some ⟨b2, 0, none⟩)), Y 8 (i64 (wordEnd (s) (i))), Y 71 (.bool (decide ((i) < (wordEnd (s) (i)))))] rfl ?_)
      refine CW.cond rfl (fun hb6 => ?_) (fun hb6 => ?_)
      ·try simp only [zb] at hb6
       refine CW.sr ?_
       refine RL.m rfl rfl (RL.m rfl rfl (RL.m rfl rfl (RL.u (.slS (.t rfl) (.t rfl) (.t rfl) Tryz.underlying9 (fun _ => by omega)) rfl (RL.m rfl rfl (RL.u (.build (vs := [(0, (i64 2)), (1, (str (Eng.sub (s) (i) (wordEnd (s) (i))))), (3, (i64 i))]) (v := (.agg #[(i64 2), (str (Eng.sub (s) (i) (wordEnd (s) (i)))), (i64 0), (i64 0), (str []), (str []), (.bool false), (i64 0), (i64 i)])) (.cons .c (.cons (.t rfl) (.cons (.t rfl) .nil))) (fun w => by kernel_rfl)) rfl ?_)))))
       refine RL.m rfl rfl (RL.u (.build (vs := [(0, (.agg #[(i64 2), (str (Eng.sub (s) (i) (wordEnd (s) (i)))), (i64 0), (i64 0), (str []), (str []), (.bool false), (i64 0), (i64 i)])), (1, (i64 (wordEnd (s) (i))))]) (v := (.agg #[(i64 2), (str (Eng.sub (s) (i) (wordEnd (s) (i)))), (i64 0), (i64 0), (str []), (str []), (.bool false), (i64 0), (i64 i), (i64 (wordEnd (s) (i))), (i64 0)])) (.cons (.t rfl) (.cons (.t rfl) .nil)) (fun w => by kernel_rfl)) rfl ?_)
       refine RL.st hS16 (i := 0) rfl (.t rfl) (.t rfl) Tryz.sizeOf57 rfl rfl rfl (Hs' := [.box b2 [(i64 2), (str (Eng.sub (s) (i) (wordEnd (s) (i)))), (i64 0), (i64 0), (str []), (str []), (.bool false), (i64 0), (i64 i), (i64 (wordEnd (s) (i))), (i64 0)] 57]) rfl rfl (fun w21 hS22 => ?_)
       refine RL.nil (CW.at [Y 4 (.pointer (some ⟨b2, 0, none⟩))] rfl ?_)
       refine CW.ret (retR1 (P := Tryz.prog) (fn := Tryz.f18) (R := fun e w' => e = .returned (.agg ⟨(tkC ((gotOf (tokP (from' s i)) i).1) ((i64 ((gotOf (tokP (from' s i)) i).2.1)) :: ((i64 ((gotOf (tokP (from' s i)) i).2.2)) :: [])))⟩) ∧ Ext w w') rfl (.boxN hS22 (i := 0) rfl rfl Tryz.isAgg57 Tryz.sizeOf57) ?_)
       rw [tok_word h0 h1 hN (hmn (by omega)) (by omega)]; exact ⟨rfl, hS22.low⟩
      ·try simp only [zb] at hb6
       refine CW.skip (CW.at [Y 0 (str s), Y 1 (i64 i), Y 4 (.pointer (some ⟨b2, 0, none⟩))] rfl ?_)
       refine CW.seq ?_
       refine CW.sr ?_
       refine RL.m rfl rfl (RL.m rfl rfl (RL.u (.idxS (.t rfl) (.t rfl) Tryz.underlying9 (fun _ => by omega)) rfl (RL.u (.eql (.t rfl) .c) rfl ?_)))
       refine RL.nil (CW.at [Y 0 (str s), Y 1 (i64 i), Y 4 (.pointer (some ⟨b2, 0, none⟩)), Y 83 (.bool ((byteAt (s) (i)) == (34)))] rfl ?_)
       refine CW.cond rfl (fun hb7 => ?_) (fun hb7 => ?_)
       ·try simp only [zb] at hb7
        refine CW.sr ?_
        refine RL.m rfl rfl (RL.m rfl rfl (RL.m rfl rfl ?_))
        refine RL.callE hS16 .none Tryz.call35 (.cons (.t rfl) (.cons (.t rfl) (.cons .c (.cons (.t rfl) .nil)))) (fun _ => (text8_c (s) (i) (4) (i) _ (by omega) (by omega) (by omega))) rfl (fun w23 hS24 => ?_)
        refine RL.st hS24 (i := 0) rfl (.t rfl) (.t rfl) Tryz.sizeOf57 rfl rfl rfl (Hs' := [.box b2 (tkC ((textR8 (s) (i) (4) (i)).1) ((i64 ((textR8 (s) (i) (4) (i)).2.1)) :: ((i64 ((textR8 (s) (i) (4) (i)).2.2)) :: []))) 57]) rfl rfl (fun w25 hS26 => ?_)
        refine RL.nil (CW.at [Y 4 (.pointer (some ⟨b2, 0, none⟩))] rfl ?_)
        refine CW.ret (retR1 (P := Tryz.prog) (fn := Tryz.f18) (R := fun e w' => e = .returned (.agg ⟨(tkC ((gotOf (tokP (from' s i)) i).1) ((i64 ((gotOf (tokP (from' s i)) i).2.1)) :: ((i64 ((gotOf (tokP (from' s i)) i).2.2)) :: [])))⟩) ∧ Ext w w') rfl (.boxN hS26 (i := 0) rfl rfl Tryz.isAgg57 Tryz.sizeOf57) ?_)
        rw [tok_text h0 h1 hN (hmn (by omega)) (by omega) (by omega)]; exact ⟨rfl, hS26.low⟩
       ·try simp only [zb] at hb7
        refine CW.skip (CW.at [Y 0 (str s), Y 1 (i64 i), Y 4 (.pointer (some ⟨b2, 0, none⟩))] rfl ?_)
        refine CW.seq ?_
        refine CW.sr ?_
        refine RL.m rfl rfl (RL.m rfl rfl (RL.u (.idxS (.t rfl) (.t rfl) Tryz.underlying9 (fun _ => by omega)) rfl (RL.u (.eql (.t rfl) .c) rfl (RL.m rfl rfl (RL.v (.neg rfl rfl) (.move (.t rfl)) rfl ?_)))))
        refine RL.v (.neg rfl rfl) (.move (.t rfl)) rfl (RL.v (.neg rfl rfl) (.idxS (.g rfl (fun h => h)) (.g rfl (fun h => h)) Tryz.underlying9 (fun hW => by simp only [zb] at hW; omega)) rfl (RL.v (.neg rfl rfl) (.geq (.g rfl (fun h => h)) .c) rfl (RL.v (.neg rfl rfl) (.move (.g rfl (fun h => h))) rfl (RL.v (.posG rfl rfl) (.move (.t rfl)) rfl (RL.v (.posG rfl rfl) (.move (.t rfl)) rfl ?_)))))
        refine RL.v (.posG rfl rfl) (.idxS (.g rfl (fun h => h)) (.g rfl (fun h => h)) Tryz.underlying9 (fun hW => by simp only [zb] at hW; omega)) rfl (RL.v (.posG rfl rfl) (.leq (.g rfl (fun h => h)) .c) rfl (RL.v (.neg rfl rfl) (.and (.g rfl (fun h => h)) (.g rfl (fun h => h))) rfl (RL.u (.or (.t rfl) (.g rfl (fun h => h))) rfl ?_)))
        refine RL.nil (CW.at [Y 0 (str s), Y 1 (i64 i), Y 4 (.pointer (some ⟨b2, 0, none⟩)), Y 103 (.bool (((byteAt (s) (i)) == (45)) || ((decide ((48) ≤ (byteAt (s) (i)))) && (decide ((byteAt (s) (i)) ≤ (57))))))] rfl ?_)
        refine CW.cond rfl (fun hb8 => ?_) (fun hb8 => ?_)
        ·try simp only [zb] at hb8
         refine CW.sr ?_
         refine RL.m rfl rfl (RL.m rfl rfl ?_)
         refine RL.callE hS16 .none Tryz.call37 (.cons (.t rfl) (.cons (.t rfl) .nil)) (fun _ => (number8_c (s) (i) _ (by omega) (by omega) (by omega))) rfl (fun w27 hS28 => ?_)
         refine RL.st hS28 (i := 0) rfl (.t rfl) (.t rfl) Tryz.sizeOf57 rfl rfl rfl (Hs' := [.box b2 (tkC ((numberR (s) (i)).1) ((i64 ((numberR (s) (i)).2.1)) :: ((i64 ((numberR (s) (i)).2.2)) :: []))) 57]) rfl rfl (fun w29 hS30 => ?_)
         refine RL.nil (CW.at [Y 4 (.pointer (some ⟨b2, 0, none⟩))] rfl ?_)
         refine CW.ret (retR1 (P := Tryz.prog) (fn := Tryz.f18) (R := fun e w' => e = .returned (.agg ⟨(tkC ((gotOf (tokP (from' s i)) i).1) ((i64 ((gotOf (tokP (from' s i)) i).2.1)) :: ((i64 ((gotOf (tokP (from' s i)) i).2.2)) :: [])))⟩) ∧ Ext w w') rfl (.boxN hS30 (i := 0) rfl rfl Tryz.isAgg57 Tryz.sizeOf57) ?_)
         rw [tok_num h0 h1 hN (hmn (by omega)) (by omega) (by omega) (by omega)]; exact ⟨rfl, hS30.low⟩
        ·try simp only [zb] at hb8
         refine CW.skip (CW.at [Y 1 (i64 i), Y 4 (.pointer (some ⟨b2, 0, none⟩))] rfl ?_)
         refine CW.sr ?_
         refine RL.m rfl rfl (RL.u (.build (vs := [(1, (i64 i)), (2, (i64 1))]) (v := (.agg #[(i64 0), (str []), (i64 0), (i64 0), (str []), (str []), (.bool false), (i64 0), (i64 0), (i64 i), (i64 1)])) (.cons (.t rfl) (.cons .c .nil)) (fun w => by kernel_rfl)) rfl ?_)
         refine RL.st hS16 (i := 0) rfl (.t rfl) (.t rfl) Tryz.sizeOf57 rfl rfl rfl (Hs' := [.box b2 [(i64 0), (str []), (i64 0), (i64 0), (str []), (str []), (.bool false), (i64 0), (i64 0), (i64 i), (i64 1)] 57]) rfl rfl (fun w31 hS32 => ?_)
         refine RL.nil (CW.at [Y 4 (.pointer (some ⟨b2, 0, none⟩))] rfl ?_)
         refine CW.ret (retR1 (P := Tryz.prog) (fn := Tryz.f18) (R := fun e w' => e = .returned (.agg ⟨(tkC ((gotOf (tokP (from' s i)) i).1) ((i64 ((gotOf (tokP (from' s i)) i).2.1)) :: ((i64 ((gotOf (tokP (from' s i)) i).2.2)) :: [])))⟩) ∧ Ext w w') rfl (.boxN hS32 (i := 0) rfl rfl Tryz.isAgg57 Tryz.sizeOf57) ?_)
         rw [tok_bad h0 h1 hN (hmn (by omega)) (by omega) (by omega) (by omega)]; exact ⟨rfl, hS32.low⟩
 ·try simp only [zb] at hb1
  have hN : NoDot s i := .inl (fun h => by rw [(hasAt_dot h0 h1).2 h] at hb1; cases hb1)
  refine CW.skip (CW.at [Y 0 (str s), Y 1 (i64 i), Y 4 (.pointer (some ⟨b2, 0, none⟩))] rfl ?_)
  refine CW.sr ?_
  refine RL.callM hS3 Tryz.call36 .nil ((marks8_c (fun _ _ => none) _ hS3.sat)) rfl ?_
  rintro v33 w34 M35 hS36 hle37 hsl_v33
  refine RL.a rfl rfl ?_
  refine RL.nil (CW.at [Y 0 (str s), Y 1 (i64 i), Y 4 (.pointer (some ⟨b2, 0, none⟩)), Y 6 (v33)] rfl ?_)
  refine CW.seq ?_
  refine CW.sr ?_
  refine RL.u (.assign .c) rfl ?_
  refine RL.nil (CW.at [Y 0 (str s), Y 1 (i64 i), Y 4 (.pointer (some ⟨b2, 0, none⟩)), Y 6 (v33), Y 7 (i64 0)] rfl ?_)
  refine CW.block ?_
  refine CW.loop (σ := Int) (fun k => [Y 0 (str s), Y 1 (i64 i), Y 4 (.pointer (some ⟨b2, 0, none⟩)), Y 6 (v33), Y 7 (i64 k)]) (fun k wl => St w (fun _ _ => none) wl M35 [.box b2 [(i64 0), (str []), (i64 0), (i64 0), (str []), (str []), (.bool false), (i64 0), (i64 0), (i64 0), (i64 0)] 57] ∧ Sl M35 1 (marks8).length (v33) ((marks8).flatMap strC) ∧ 0 ≤ k ∧ k ≤ 17 ∧ NoMark s i k) (fun k => (17 - k).toNat) (0) [0, 1, 4, 6, 7] rfl ?_ ?_
  ·refine ⟨hS36, hsl_v33, ?_⟩; exact ⟨by omega, by omega, NoMark.start s i⟩
  ·rintro k wl ⟨hS39, hsl_v33, hk0, hk1, hM⟩
   have hml := fun h => mark_len hk0 (k := k) h
   have hmn := fun h => hM.none' (s := s) (i := i) (k := k) h
   refine CW.seq ?_
   refine CW.sr ?_
   refine RL.m rfl rfl (RL.m rfl rfl (RL.u (.lenT hsl_v33 (.t rfl) ⟨_, Tryz.underlying60⟩) rfl (RL.u (.lss (.t rfl) (.t rfl)) rfl ?_)))
   refine RL.nil (CW.at [Y 0 (str s), Y 1 (i64 i), Y 4 (.pointer (some ⟨b2, 0, none⟩)), Y 6 (v33), Y 7 (i64 k), Y 42 (.bool (decide ((k) < (len (marks8)))))] rfl ?_)
   refine CW.cond rfl (fun hb9 => ?_) (fun hb9 => ?_)
   ·try simp only [zb] at hb9
    refine CW.skip (CW.at [Y 0 (str s), Y 1 (i64 i), Y 4 (.pointer (some ⟨b2, 0, none⟩)), Y 6 (v33), Y 7 (i64 k)] rfl ?_)
    refine CW.seq ?_
    refine CW.block ?_
    refine CW.sr ?_
    refine RL.m rfl rfl (RL.m rfl rfl (RL.m rfl rfl (RL.m rfl rfl (RL.u (.idxT hsl_v33 (.t rfl) (.t rfl) Tryz.underlying60 Tryz.sizeOf9 (fun _ => by omega)) rfl (RL.u (.loadE1 (f := strC) (i := k) (j := 0) (u := (str (at' (marks8) (k)))) hS39 extEq hsl_v33 strC_len (.t rfl) Tryz.isAgg9 (fun _ => by omega) rfl rfl) rfl ?_)))))
    refine RL.callS .none Tryz.call33 (.cons (.t rfl) (.cons (.t rfl) (.cons (.t rfl) .nil))) (fun _ => (has8_c (s) (i) (at' (marks8) (k)) _ (by omega) (by first | omega | (simp only [len_cons, len_nil]; omega)))) rfl ?_
    refine RL.nil (CW.at [Y 0 (str s), Y 1 (i64 i), Y 4 (.pointer (some ⟨b2, 0, none⟩)), Y 6 (v33), Y 7 (i64 k), Y 51 (.bool (hasAt (s) (i) (at' (marks8) (k))))] rfl ?_)
    refine CW.cond rfl (fun hb10 => ?_) (fun hb10 => ?_)
    ·try simp only [zb] at hb10
     refine CW.seq ?_
     refine CW.regionT 14 hS39 tryz_mixed (by decide +kernel) (fun w40 hS41 => ?_)
     refine RS.v .none (.move (.t rfl)) rfl ?_
     refine RS.v .none (.move (.t rfl)) rfl ?_
     refine RS.v .none (.idxT hsl_v33 (.t rfl) (.t rfl) Tryz.underlying60 Tryz.sizeOf9 (fun _ => by omega)) rfl ?_
     refine RS.v .none (.loadE1 (f := strC) (i := k) (j := 0) (u := (str (at' (marks8) (k)))) hS41 extEq hsl_v33 strC_len (.t rfl) Tryz.isAgg9 (fun _ => by omega) rfl rfl) rfl ?_
     refine RS.v .none (.move (.t rfl)) rfl ?_
     refine RS.v .none (.build (vs := [(0, (i64 1)), (1, (str (at' (marks8) (k)))), (3, (i64 i))]) (v := (.agg #[(i64 1), (str (at' (marks8) (k))), (i64 0), (i64 0), (str []), (str []), (.bool false), (i64 0), (i64 i)])) (.cons .c (.cons (.t rfl) (.cons (.t rfl) .nil))) (fun w => by kernel_rfl)) rfl ?_
     refine RS.v .none (.move (.t rfl)) rfl ?_
     refine RS.v .none (.move (.t rfl)) rfl ?_
     refine RS.v .none (.move (.t rfl)) rfl ?_
     refine RS.v .none (.idxT hsl_v33 (.t rfl) (.t rfl) Tryz.underlying60 Tryz.sizeOf9 (fun _ => by omega)) rfl ?_
     refine RS.v .none (.loadE1 (f := strC) (i := k) (j := 0) (u := (str (at' (marks8) (k)))) hS41 extEq hsl_v33 strC_len (.t rfl) Tryz.isAgg9 (fun _ => by omega) rfl rfl) rfl ?_
     refine RS.v .none (.lenS (.t rfl) Tryz.underlying9) rfl ?_
     refine RS.v .none (.add (.t rfl) (.t rfl) (fun _ => by omega)) rfl ?_
     refine RS.v .none (.build (vs := [(0, (.agg #[(i64 1), (str (at' (marks8) (k))), (i64 0), (i64 0), (str []), (str []), (.bool false), (i64 0), (i64 i)])), (1, (i64 ((i) + (len (at' (marks8) (k))))))]) (v := (.agg #[(i64 1), (str (at' (marks8) (k))), (i64 0), (i64 0), (str []), (str []), (.bool false), (i64 0), (i64 i), (i64 ((i) + (len (at' (marks8) (k))))), (i64 0)])) (.cons (.t rfl) (.cons (.t rfl) .nil)) (fun w => by kernel_rfl)) rfl ?_
     refine RS.nil ?_
     refine RL.st hS41 (i := 0) rfl (.t rfl) (.t rfl) Tryz.sizeOf57 rfl rfl rfl (Hs' := [.box b2 [(i64 1), (str (at' (marks8) (k))), (i64 0), (i64 0), (str []), (str []), (.bool false), (i64 0), (i64 i), (i64 ((i) + (len (at' (marks8) (k))))), (i64 0)] 57]) rfl rfl (fun w42 hS43 => ?_)
     refine RL.nil (CW.at [Y 4 (.pointer (some ⟨b2, 0, none⟩))] rfl ?_)
     refine CW.ret (retR1 (P := Tryz.prog) (fn := Tryz.f18) (R := fun e w' => e = .returned (.agg ⟨(tkC ((gotOf (tokP (from' s i)) i).1) ((i64 ((gotOf (tokP (from' s i)) i).2.1)) :: ((i64 ((gotOf (tokP (from' s i)) i).2.2)) :: [])))⟩) ∧ Ext w w') rfl (.boxN hS43 (i := 0) rfl rfl Tryz.isAgg57 Tryz.sizeOf57) ?_)
     have hmk := hM.found h0 (by omega) hk0 (by omega) hb10
     rw [tok_mark h0 h1 hN hmk (mark_ne hk0 (by omega))]; exact ⟨rfl, hS43.low⟩
    ·try simp only [zb] at hb10
     refine CW.skip (CW.at [Y 0 (str s), Y 1 (i64 i), Y 4 (.pointer (some ⟨b2, 0, none⟩)), Y 6 (v33), Y 7 (i64 k)] rfl ?_)
     refine CW.region ?_
     refine RL.m rfl rfl (RL.u (.add (.t rfl) .c (fun _ => by omega)) rfl (RL.a rfl rfl ?_))
     refine RL.nil fun a hs => Exists.intro (k + 1) ⟨hs.keep [0, 1, 4, 6, 7], ?_, ?_⟩
     ·refine ⟨hS39, hsl_v33, ?_⟩
      exact ⟨by omega, by omega, hM.step h0 (by omega) hk0 (by omega) (by simpa using hb10)⟩
     ·show Int.toNat _ < Int.toNat _; omega
   ·try simp only [zb] at hb9
    refine CW.exit (CW.at [Y 0 (str s), Y 1 (i64 i), Y 4 (.pointer (some ⟨b2, 0, none⟩))] rfl ?_)
    refine CW.sr ?_
    refine RL.m rfl rfl (RL.m rfl rfl ?_)
    refine RL.callS .none Tryz.call34 (.cons (.t rfl) (.cons (.t rfl) .nil)) (fun _ => (word8_c (s) (i) _ (by omega) (by omega) (by omega))) rfl ?_
    refine RL.a rfl rfl ?_
    refine RL.nil (CW.at [Y 0 (str s), Y 1 (i64 i), Y 4 (.pointer (some ⟨b2, 0, none⟩)), Y 8 (i64 (wordEnd (s) (i)))] rfl ?_)
    refine CW.seq ?_
    refine CW.sr ?_
    refine RL.m rfl rfl (RL.m rfl rfl (RL.u (.gtr (.t rfl) (.t rfl)) rfl ?_))
    refine RL.nil (CW.at [Y 0 (str s), Y 1 (i64 i), Y 4 (.pointer (some ⟨b2, 0, none⟩)), Y 8 (i64 (wordEnd (s) (i))), Y 71 (.bool (decide ((i) < (wordEnd (s) (i)))))] rfl ?_)
    refine CW.cond rfl (fun hb11 => ?_) (fun hb11 => ?_)
    ·try simp only [zb] at hb11
     refine CW.sr ?_
     refine RL.m rfl rfl (RL.m rfl rfl (RL.m rfl rfl (RL.u (.slS (.t rfl) (.t rfl) (.t rfl) Tryz.underlying9 (fun _ => by omega)) rfl (RL.m rfl rfl (RL.u (.build (vs := [(0, (i64 2)), (1, (str (Eng.sub (s) (i) (wordEnd (s) (i))))), (3, (i64 i))]) (v := (.agg #[(i64 2), (str (Eng.sub (s) (i) (wordEnd (s) (i)))), (i64 0), (i64 0), (str []), (str []), (.bool false), (i64 0), (i64 i)])) (.cons .c (.cons (.t rfl) (.cons (.t rfl) .nil))) (fun w => by kernel_rfl)) rfl ?_)))))
     refine RL.m rfl rfl (RL.u (.build (vs := [(0, (.agg #[(i64 2), (str (Eng.sub (s) (i) (wordEnd (s) (i)))), (i64 0), (i64 0), (str []), (str []), (.bool false), (i64 0), (i64 i)])), (1, (i64 (wordEnd (s) (i))))]) (v := (.agg #[(i64 2), (str (Eng.sub (s) (i) (wordEnd (s) (i)))), (i64 0), (i64 0), (str []), (str []), (.bool false), (i64 0), (i64 i), (i64 (wordEnd (s) (i))), (i64 0)])) (.cons (.t rfl) (.cons (.t rfl) .nil)) (fun w => by kernel_rfl)) rfl ?_)
     refine RL.st hS39 (i := 0) rfl (.t rfl) (.t rfl) Tryz.sizeOf57 rfl rfl rfl (Hs' := [.box b2 [(i64 2), (str (Eng.sub (s) (i) (wordEnd (s) (i)))), (i64 0), (i64 0), (str []), (str []), (.bool false), (i64 0), (i64 i), (i64 (wordEnd (s) (i))), (i64 0)] 57]) rfl rfl (fun w44 hS45 => ?_)
     refine RL.nil (CW.at [Y 4 (.pointer (some ⟨b2, 0, none⟩))] rfl ?_)
     refine CW.ret (retR1 (P := Tryz.prog) (fn := Tryz.f18) (R := fun e w' => e = .returned (.agg ⟨(tkC ((gotOf (tokP (from' s i)) i).1) ((i64 ((gotOf (tokP (from' s i)) i).2.1)) :: ((i64 ((gotOf (tokP (from' s i)) i).2.2)) :: [])))⟩) ∧ Ext w w') rfl (.boxN hS45 (i := 0) rfl rfl Tryz.isAgg57 Tryz.sizeOf57) ?_)
     rw [tok_word h0 h1 hN (hmn (by omega)) (by omega)]; exact ⟨rfl, hS45.low⟩
    ·try simp only [zb] at hb11
     refine CW.skip (CW.at [Y 0 (str s), Y 1 (i64 i), Y 4 (.pointer (some ⟨b2, 0, none⟩))] rfl ?_)
     refine CW.seq ?_
     refine CW.sr ?_
     refine RL.m rfl rfl (RL.m rfl rfl (RL.u (.idxS (.t rfl) (.t rfl) Tryz.underlying9 (fun _ => by omega)) rfl (RL.u (.eql (.t rfl) .c) rfl ?_)))
     refine RL.nil (CW.at [Y 0 (str s), Y 1 (i64 i), Y 4 (.pointer (some ⟨b2, 0, none⟩)), Y 83 (.bool ((byteAt (s) (i)) == (34)))] rfl ?_)
     refine CW.cond rfl (fun hb12 => ?_) (fun hb12 => ?_)
     ·try simp only [zb] at hb12
      refine CW.sr ?_
      refine RL.m rfl rfl (RL.m rfl rfl (RL.m rfl rfl ?_))
      refine RL.callE hS39 .none Tryz.call35 (.cons (.t rfl) (.cons (.t rfl) (.cons .c (.cons (.t rfl) .nil)))) (fun _ => (text8_c (s) (i) (4) (i) _ (by omega) (by omega) (by omega))) rfl (fun w46 hS47 => ?_)
      refine RL.st hS47 (i := 0) rfl (.t rfl) (.t rfl) Tryz.sizeOf57 rfl rfl rfl (Hs' := [.box b2 (tkC ((textR8 (s) (i) (4) (i)).1) ((i64 ((textR8 (s) (i) (4) (i)).2.1)) :: ((i64 ((textR8 (s) (i) (4) (i)).2.2)) :: []))) 57]) rfl rfl (fun w48 hS49 => ?_)
      refine RL.nil (CW.at [Y 4 (.pointer (some ⟨b2, 0, none⟩))] rfl ?_)
      refine CW.ret (retR1 (P := Tryz.prog) (fn := Tryz.f18) (R := fun e w' => e = .returned (.agg ⟨(tkC ((gotOf (tokP (from' s i)) i).1) ((i64 ((gotOf (tokP (from' s i)) i).2.1)) :: ((i64 ((gotOf (tokP (from' s i)) i).2.2)) :: [])))⟩) ∧ Ext w w') rfl (.boxN hS49 (i := 0) rfl rfl Tryz.isAgg57 Tryz.sizeOf57) ?_)
      rw [tok_text h0 h1 hN (hmn (by omega)) (by omega) (by omega)]; exact ⟨rfl, hS49.low⟩
     ·try simp only [zb] at hb12
      refine CW.skip (CW.at [Y 0 (str s), Y 1 (i64 i), Y 4 (.pointer (some ⟨b2, 0, none⟩))] rfl ?_)
      refine CW.seq ?_
      refine CW.sr ?_
      refine RL.m rfl rfl (RL.m rfl rfl (RL.u (.idxS (.t rfl) (.t rfl) Tryz.underlying9 (fun _ => by omega)) rfl (RL.u (.eql (.t rfl) .c) rfl (RL.m rfl rfl (RL.v (.neg rfl rfl) (.move (.t rfl)) rfl ?_)))))
      refine RL.v (.neg rfl rfl) (.move (.t rfl)) rfl (RL.v (.neg rfl rfl) (.idxS (.g rfl (fun h => h)) (.g rfl (fun h => h)) Tryz.underlying9 (fun hW => by simp only [zb] at hW; omega)) rfl (RL.v (.neg rfl rfl) (.geq (.g rfl (fun h => h)) .c) rfl (RL.v (.neg rfl rfl) (.move (.g rfl (fun h => h))) rfl (RL.v (.posG rfl rfl) (.move (.t rfl)) rfl (RL.v (.posG rfl rfl) (.move (.t rfl)) rfl ?_)))))
      refine RL.v (.posG rfl rfl) (.idxS (.g rfl (fun h => h)) (.g rfl (fun h => h)) Tryz.underlying9 (fun hW => by simp only [zb] at hW; omega)) rfl (RL.v (.posG rfl rfl) (.leq (.g rfl (fun h => h)) .c) rfl (RL.v (.neg rfl rfl) (.and (.g rfl (fun h => h)) (.g rfl (fun h => h))) rfl (RL.u (.or (.t rfl) (.g rfl (fun h => h))) rfl ?_)))
      refine RL.nil (CW.at [Y 0 (str s), Y 1 (i64 i), Y 4 (.pointer (some ⟨b2, 0, none⟩)), Y 103 (.bool (((byteAt (s) (i)) == (45)) || ((decide ((48) ≤ (byteAt (s) (i)))) && (decide ((byteAt (s) (i)) ≤ (57))))))] rfl ?_)
      refine CW.cond rfl (fun hb13 => ?_) (fun hb13 => ?_)
      ·try simp only [zb] at hb13
       refine CW.sr ?_
       refine RL.m rfl rfl (RL.m rfl rfl ?_)
       refine RL.callE hS39 .none Tryz.call37 (.cons (.t rfl) (.cons (.t rfl) .nil)) (fun _ => (number8_c (s) (i) _ (by omega) (by omega) (by omega))) rfl (fun w50 hS51 => ?_)
       refine RL.st hS51 (i := 0) rfl (.t rfl) (.t rfl) Tryz.sizeOf57 rfl rfl rfl (Hs' := [.box b2 (tkC ((numberR (s) (i)).1) ((i64 ((numberR (s) (i)).2.1)) :: ((i64 ((numberR (s) (i)).2.2)) :: []))) 57]) rfl rfl (fun w52 hS53 => ?_)
       refine RL.nil (CW.at [Y 4 (.pointer (some ⟨b2, 0, none⟩))] rfl ?_)
       refine CW.ret (retR1 (P := Tryz.prog) (fn := Tryz.f18) (R := fun e w' => e = .returned (.agg ⟨(tkC ((gotOf (tokP (from' s i)) i).1) ((i64 ((gotOf (tokP (from' s i)) i).2.1)) :: ((i64 ((gotOf (tokP (from' s i)) i).2.2)) :: [])))⟩) ∧ Ext w w') rfl (.boxN hS53 (i := 0) rfl rfl Tryz.isAgg57 Tryz.sizeOf57) ?_)
       rw [tok_num h0 h1 hN (hmn (by omega)) (by omega) (by omega) (by omega)]; exact ⟨rfl, hS53.low⟩
      ·try simp only [zb] at hb13
       refine CW.skip (CW.at [Y 1 (i64 i), Y 4 (.pointer (some ⟨b2, 0, none⟩))] rfl ?_)
       refine CW.sr ?_
       refine RL.m rfl rfl (RL.u (.build (vs := [(1, (i64 i)), (2, (i64 1))]) (v := (.agg #[(i64 0), (str []), (i64 0), (i64 0), (str []), (str []), (.bool false), (i64 0), (i64 0), (i64 i), (i64 1)])) (.cons (.t rfl) (.cons .c .nil)) (fun w => by kernel_rfl)) rfl ?_)
       refine RL.st hS39 (i := 0) rfl (.t rfl) (.t rfl) Tryz.sizeOf57 rfl rfl rfl (Hs' := [.box b2 [(i64 0), (str []), (i64 0), (i64 0), (str []), (str []), (.bool false), (i64 0), (i64 0), (i64 i), (i64 1)] 57]) rfl rfl (fun w54 hS55 => ?_)
       refine RL.nil (CW.at [Y 4 (.pointer (some ⟨b2, 0, none⟩))] rfl ?_)
       refine CW.ret (retR1 (P := Tryz.prog) (fn := Tryz.f18) (R := fun e w' => e = .returned (.agg ⟨(tkC ((gotOf (tokP (from' s i)) i).1) ((i64 ((gotOf (tokP (from' s i)) i).2.1)) :: ((i64 ((gotOf (tokP (from' s i)) i).2.2)) :: [])))⟩) ∧ Ext w w') rfl (.boxN hS55 (i := 0) rfl rfl Tryz.isAgg57 Tryz.sizeOf57) ?_)
       rw [tok_bad h0 h1 hN (hmn (by omega)) (by omega) (by omega) (by omega)]; exact ⟨rfl, hS55.low⟩

end Go.Proofs.YthdialbnlnjgpaaGreatDoor
