/-
  The reference's parser: lists.
  The reference's parser: objects.
  The reference's parser: a value; Parse.
  THE ENGINE, PART 19: a deferred closure's region: behind its recover operation the others are plain. Over any program.
-/
import Derived.Test.YtjfaikgooldcbaaGreatDoorZs4
import Derived.Laws.BitsLemmas
import Derived.Test.YtjfaikgooldcbaaGreatDoorZs3
import Derived.Test.YtjfaikgooldcbaaGreatDoorProg
import Derived.Test.YtjfaikgooldcbaaGreatDoorZs13
import Derived.Test.YtjfaikgooldcbaaGreatDoorZs16
import Derived.Test.YtjfaikgooldcbaaGreatDoorZs8
import Derived.Defers
import Derived.Recover
set_option linter.unusedVariables false
set_option linter.unusedSimpArgs false
set_option maxRecDepth 100000
namespace Go.Proofs.YtjfaikgooldcbaaGreatDoor
open Go.Eng

/- loupe/louperef03.unit -/
theorem unit_c (s : Str) (i : Int) (w : World) (h0 : 0 ≤ i) (h1 : i ≤ len s) (hb : len s ≤ 1099511627776) :
  Calls Tryz.prog 136 [(str s), (i64 i)].toArray w fun e w' => e = .returned (i64 (numP (from' s i))) ∧ w' = w := by
 refine CW.enter1 Tryz.func136 rfl Tryz.ntmps136 (Nat.le_of_ble_eq_true rfl) fun Q hE => ?_
 have := len_nonneg s
 refine CW.weaken [0, 1] (L' := [Y 0 (str s), Y 1 (i64 i)]) ?_ rfl
 refine CW.sr (RL.u (.assign .c) rfl (RL.nil (CW.id (CW.seq ?_))))
 refine CW.sr (RL.m rfl rfl (RL.u (.add (.t rfl) .c (fun _ => by first | omega | (unfold hexI at *; omega))) rfl (RL.m rfl rfl (RL.u (.lenS (.t rfl) Tryz.underlying9) rfl (RL.u (.gtr (.t rfl) (.t rfl)) rfl (RL.m rfl rfl (RL.v (.neg rfl rfl) (.move (.t rfl)) rfl (RL.v (.neg rfl rfl) (.move (.t rfl)) rfl (RL.v (.neg rfl rfl) (.idxS (.g rfl (fun h => h)) (.g rfl (fun h => h)) Tryz.underlying9 (fun hW => by simp only [zb] at hW; first | omega | (unfold hexI at *; omega))) rfl (RL.v (.neg rfl rfl) (.neq (.g rfl (fun h => h)) .c) rfl (RL.u (.or (.t rfl) (.g rfl (fun h => h))) rfl (RL.m rfl rfl (RL.v (.neg rfl rfl) (.move (.t rfl)) rfl (RL.v (.neg rfl rfl) (.move (.t rfl)) rfl (RL.v (.neg rfl rfl) (.add (.g rfl (fun h => h)) .c (fun hW => by simp only [zb] at hW; first | omega | (unfold hexI at *; omega))) rfl (RL.v (.neg rfl rfl) (.idxS (.g rfl (fun h => h)) (.g rfl (fun h => h)) Tryz.underlying9 (fun hW => by simp only [zb] at hW; first | omega | (unfold hexI at *; omega))) rfl (RL.v (.neg rfl rfl) (.neq (.g rfl (fun h => h)) .c) rfl (RL.u (.or (.t rfl) (.g rfl (fun h => h))) rfl (RL.nil (CW.id ?_))))))))))))))))))))
 refine CW.cond rfl ?_ ?_ <;> intro hb1 <;> try simp only [zb] at hb1
 ·refine CW.sr (RL.u (.assign .c) rfl (RL.nil (CW.id (CW.ret (hE.r1 rfl rfl ?_)))))
  exact ⟨by rw [numP_not h0 (by omega)], rfl⟩
 ·have hn1 : i + 6 ≤ len s ∧ byteAt s i = 92 ∧ byteAt s (i + 1) = 117 := by omega
  have hne := (sub_eq_nil (s := s) (i := i + 2) (j := i + 2) (by omega) (Int.le_refl _) (by omega)).2 rfl
  refine CW.skip (CW.id (CW.sr (RL.u (.assign .c) rfl (RL.nil (CW.id ?_)))))
  refine CW.seq (CW.sr (RL.m rfl rfl (RL.u (.add (.t rfl) .c (fun _ => by first | omega | (unfold hexI at *; omega))) rfl (RL.a rfl rfl (RL.nil (CW.id ?_))))))
  refine CW.block ?_
  refine CW.loop (σ := Int × Int) (fun (n, k) => [Y 0 (str s), Y 1 (i64 i), Y 5 (i64 n), Y 6 (i64 k)]) (fun (n, k) wl => w = wl ∧ i + 2 ≤ k ∧ k ≤ i + 6 ∧ hexOk (Eng.sub s (i + 2) k) = true ∧ n = hexVal (Eng.sub s (i + 2) k)) (fun (n, k) => (i + 6 - k).toNat) ((0, i + 2)) [0, 1, 5, 6] rfl ?_ ?_
  ·exact ⟨rfl, by omega, by omega, by rw [hne]; rfl, by rw [hne]; rfl⟩
  ·rintro ⟨n, k⟩ wl ⟨rfl, hk0, hk1, hok, hn⟩
   have hby := byteAt_bd s k
   have hsl := sub_len (s := s) (i := i + 2) (j := k) (by omega) hk0 (by omega)
   have hnb := hexVal_bd4 hok (by omega)
   rw [← hn] at hnb
   refine CW.seq (CW.sr (RL.m rfl rfl (RL.m rfl rfl (RL.u (.add (.t rfl) .c (fun _ => by first | omega | (unfold hexI at *; omega))) rfl (RL.u (.lss (.t rfl) (.t rfl)) rfl (RL.nil (CW.id ?_)))))))
   refine CW.cond rfl ?_ ?_ <;> intro hb2 <;> try simp only [zb] at hb2
   ·refine CW.skip (CW.id (CW.seq (CW.block (CW.sr ?_))))
    refine RL.m rfl rfl (RL.m rfl rfl (RL.u (.idxS (.t rfl) (.t rfl) Tryz.underlying9 (fun _ => by first | omega | (unfold hexI at *; omega))) rfl (RL.u (.cvtK (r := byteAt s k) (.t rfl) Tryz.underlying5 Tryz.underlying3 (fun _ => by exact Eng.wrap_i64 (by omega))) rfl (RL.a rfl rfl (RL.nil (CW.id ?_))))))
    refine CW.block (CW.sr (RL.m rfl rfl (RL.u (.geq (.t rfl) .c) rfl (RL.m rfl rfl (RL.v (.pos rfl rfl) (.move (.t rfl)) rfl (RL.v (.pos rfl rfl) (.leq (.g rfl (fun h => h)) .c) rfl (RL.u (.and (.t rfl) (.g rfl (fun h => h))) rfl (RL.a rfl rfl (RL.nil (CW.id ?_))))))))))
    refine CW.cond rfl ?_ ?_ <;> intro hb3 <;> try simp only [zb] at hb3
    ·refine CW.region (RL.m rfl rfl (RL.u (.mul (.t rfl) .c (fun _ => by first | omega | (unfold hexI at *; omega))) rfl (RL.m rfl rfl (RL.u (.add (.t rfl) (.t rfl) (fun _ => by first | omega | (unfold hexI at *; omega))) rfl (RL.u (.sub (.t rfl) .c (fun _ => by first | omega | (unfold hexI at *; omega))) rfl (RL.a rfl rfl (RL.nil (CW.id ?_))))))))
     refine CW.region (RL.m rfl rfl (RL.u (.add (.t rfl) .c (fun _ => by first | omega | (unfold hexI at *; omega))) rfl (RL.a rfl rfl ?_)))
     refine RL.nil fun a hs => Exists.intro ((((n * 16) + (byteAt s k)) - 48, k + 1)) ⟨hs.keep [0, 1, 5, 6], ?_, ?_⟩
     ·have hx : hexI (byteAt s k) = byteAt s k - 48 := by unfold hexI; (repeat' split) <;> omega
      have hst := hex_step (s := s) (i := i + 2) (k := k) (by omega) hk0 (by omega) hok (by rw [hx]; omega)
      exact ⟨rfl, by omega, by omega, hst.1, by rw [hst.2, hx, ← hn]; omega⟩
     ·show Int.toNat _ < Int.toNat _; omega
    ·refine CW.sr (RL.m rfl rfl (RL.u (.geq (.t rfl) .c) rfl (RL.m rfl rfl (RL.v (.pos rfl rfl) (.move (.t rfl)) rfl (RL.v (.pos rfl rfl) (.leq (.g rfl (fun h => h)) .c) rfl (RL.u (.and (.t rfl) (.g rfl (fun h => h))) rfl (RL.a rfl rfl (RL.nil (CW.id ?_)))))))))
     refine CW.cond rfl ?_ ?_ <;> intro hb4 <;> try simp only [zb] at hb4
     ·refine CW.region (RL.m rfl rfl (RL.u (.mul (.t rfl) .c (fun _ => by first | omega | (unfold hexI at *; omega))) rfl (RL.m rfl rfl (RL.u (.add (.t rfl) (.t rfl) (fun _ => by first | omega | (unfold hexI at *; omega))) rfl (RL.u (.sub (.t rfl) .c (fun _ => by first | omega | (unfold hexI at *; omega))) rfl (RL.u (.add (.t rfl) .c (fun _ => by first | omega | (unfold hexI at *; omega))) rfl (RL.a rfl rfl (RL.nil (CW.id ?_)))))))))
      refine CW.region (RL.m rfl rfl (RL.u (.add (.t rfl) .c (fun _ => by first | omega | (unfold hexI at *; omega))) rfl (RL.a rfl rfl ?_)))
      refine RL.nil fun a hs => Exists.intro (((((n * 16) + (byteAt s k)) - 97) + 10, k + 1)) ⟨hs.keep [0, 1, 5, 6], ?_, ?_⟩
      ·have hx : hexI (byteAt s k) = byteAt s k - 87 := by unfold hexI; (repeat' split) <;> omega
       have hst := hex_step (s := s) (i := i + 2) (k := k) (by omega) hk0 (by omega) hok (by rw [hx]; omega)
       exact ⟨rfl, by omega, by omega, hst.1, by rw [hst.2, hx, ← hn]; omega⟩
      ·show Int.toNat _ < Int.toNat _; omega
     ·refine CW.sr (RL.m rfl rfl (RL.u (.geq (.t rfl) .c) rfl (RL.m rfl rfl (RL.v (.pos rfl rfl) (.move (.t rfl)) rfl (RL.v (.pos rfl rfl) (.leq (.g rfl (fun h => h)) .c) rfl (RL.u (.and (.t rfl) (.g rfl (fun h => h))) rfl (RL.a rfl rfl (RL.nil (CW.id ?_)))))))))
      refine CW.cond rfl ?_ ?_ <;> intro hb5 <;> try simp only [zb] at hb5
      ·refine CW.region (RL.m rfl rfl (RL.u (.mul (.t rfl) .c (fun _ => by first | omega | (unfold hexI at *; omega))) rfl (RL.m rfl rfl (RL.u (.add (.t rfl) (.t rfl) (fun _ => by first | omega | (unfold hexI at *; omega))) rfl (RL.u (.sub (.t rfl) .c (fun _ => by first | omega | (unfold hexI at *; omega))) rfl (RL.u (.add (.t rfl) .c (fun _ => by first | omega | (unfold hexI at *; omega))) rfl (RL.a rfl rfl (RL.nil (CW.id ?_)))))))))
       refine CW.region (RL.m rfl rfl (RL.u (.add (.t rfl) .c (fun _ => by first | omega | (unfold hexI at *; omega))) rfl (RL.a rfl rfl ?_)))
       refine RL.nil fun a hs => Exists.intro (((((n * 16) + (byteAt s k)) - 65) + 10, k + 1)) ⟨hs.keep [0, 1, 5, 6], ?_, ?_⟩
       ·have hx : hexI (byteAt s k) = byteAt s k - 55 := by unfold hexI; (repeat' split) <;> omega
        have hst := hex_step (s := s) (i := i + 2) (k := k) (by omega) hk0 (by omega) hok (by rw [hx]; omega)
        exact ⟨rfl, by omega, by omega, hst.1, by rw [hst.2, hx, ← hn]; omega⟩
       ·show Int.toNat _ < Int.toNat _; omega
      ·refine CW.sr (RL.u (.assign .c) rfl (RL.nil (CW.id (CW.ret (hE.r1 rfl rfl ?_)))))
       have hx : hexI (byteAt s k) < 0 := by unfold hexI; (repeat' split) <;> omega
       exact ⟨by rw [numP_at h0 hn1.1 hn1.2.1 hn1.2.2, hex_bad (s := s) (i := i + 2) (k := k) (j := i + 6) (by omega) hk0 (by omega) hn1.1 hx]; rfl, rfl⟩
   ·refine CW.exit (CW.at [Y 5 (i64 n)] rfl ?_)
    refine CW.sr (RL.m rfl rfl (RL.a rfl rfl (RL.nil (CW.id (CW.ret (hE.r1 rfl rfl ?_))))))
    have hk : k = i + 6 := by omega
    subst hk
    exact ⟨by rw [numP_at h0 hn1.1 hn1.2.1 hn1.2.2, if_pos hok, hn], rfl⟩

/- loupe/louperef03.escape -/
theorem escape3_c (s : Str) (i : Int) (w : World) (h0 : 0 ≤ i) (h1 : i < len s) (hb : len s ≤ 1099511627776) :
  Calls Tryz.prog 107 [(str s), (i64 i)].toArray w fun e w' => e = .returned (.tuple #[(str ((escS (escP (from' s i))).1)), (i64 ((escS (escP (from' s i))).2))]) ∧ Ext w w' := by
 refine CW.enter1 Tryz.func107 rfl Tryz.ntmps107 (Nat.le_of_ble_eq_true rfl) fun Q hE => ?_
 have := len_nonneg s
 have hl := from_len s i h0 (by omega)
 have hb1' := byteAt_from s i 1 h0 (by omega)
 have hu := numP_bd (from' s i)
 have hu2 := numP_bd (from' s (i + 6))
 have hff := from_from s i 6 h0 (by omega)
 have h8 : len ([34, 92, 47, 98, 102, 110, 114, 116] : Str) = 8 := rfl
 have h82 : len ([34, 92, 47, 8, 12, 10, 13, 9] : Str) = 8 := rfl
 have hS : St w nM w nM [] := St.start ⟨fun _ _ _ h => by cases h⟩
 refine CW.weaken [0, 1] (L' := [Y 0 (str s), Y 1 (i64 i)]) ?_ rfl
 refine CW.sr (RL.u (.assign .c) rfl (RL.u (.assign .c) rfl (RL.nil (CW.id (CW.seq ?_)))))
 refine CW.sr (RL.m rfl rfl (RL.u (.add (.t rfl) .c (fun _ => by omega)) rfl (RL.m rfl rfl (RL.u (.lenS (.t rfl) Tryz.underlying9) rfl (RL.u (.geq (.t rfl) (.t rfl)) rfl (RL.nil (CW.id ?_)))))))
 refine CW.cond rfl ?_ ?_ <;> intro hb1 <;> try simp only [zb] at hb1
 ·refine CW.sr (RL.u (.assign .c) rfl (RL.u (.assign .c) rfl (RL.nil (CW.id (CW.ret (hE.r2 rfl rfl rfl ?_))))))
  clear hE
  have hE : escP (from' s i) = (0, 0) := by
   unfold escP
   try rw [hff]
   rw [if_pos (by first | assumption | omega | (simp_all; done) | grind)]
   try (first | rfl | (congr 1; omega))
  have hq : escS (escP (from' s i)) = ([], 0) := by rw [hE]; rfl
  rw [hq]; exact ⟨rfl, hS.low⟩
 ·refine CW.skip (CW.id (CW.sr (RL.u (.assign .c) rfl (RL.nil (CW.id ?_)))))
  refine CW.sr (RL.u (.assign .c) rfl (RL.nil (CW.id (CW.seq ?_))))
  refine CW.sr (RL.u (.assign .c) rfl (RL.nil (CW.id (CW.block ?_))))
  refine CW.loop (σ := Int) (fun k => [Y 0 (str s), Y 1 (i64 i), Y 6 (str [34, 92, 47, 98, 102, 110, 114, 116]), Y 7 (str [34, 92, 47, 8, 12, 10, 13, 9]), Y 8 (i64 k)]) (fun k wl => St w nM wl nM [] ∧ 0 ≤ k ∧ k ≤ 8 ∧ NotEsc (byteAt s (i + 1)) k) (fun k => (8 - k).toNat) 0 [0, 1, 6, 7, 8] rfl ?_ ?_
  ·refine ⟨hS, ?_⟩; exact ⟨by omega, by omega, fun j h2 h3 => by omega⟩
  ·rintro k wl ⟨hS1, hk0, hk1, hN⟩
   refine CW.seq (CW.sr (RL.m rfl rfl (RL.m rfl rfl (RL.u (.lenS (.t rfl) Tryz.underlying9) rfl (RL.u (.lss (.t rfl) (.t rfl)) rfl (RL.nil (CW.id ?_)))))))
   refine CW.cond rfl ?_ ?_ <;> intro hb2 <;> try simp only [zb] at hb2
   ·refine CW.skip (CW.id (CW.seq (CW.block (CW.seq ?_))))
    refine CW.regionD hS1 tryz_mixed (by decide +kernel) ?_
    refine RQ.v .none (.move (.t rfl)) rfl ?_
    refine RQ.v .none (.move (.t rfl)) rfl ?_
    refine RQ.v .none (.add (.t rfl) .c (fun _ => by omega)) rfl ?_
    refine RQ.v .none (.idxS (.t rfl) (.t rfl) Tryz.underlying9 (fun _ => by omega)) rfl ?_
    refine RQ.v .none (.move (.t rfl)) rfl ?_
    refine RQ.v .none (.move (.t rfl)) rfl ?_
    refine RQ.v .none (.idxS (.t rfl) (.t rfl) Tryz.underlying9 (fun _ => by omega)) rfl ?_
    refine RQ.v .none (.eql (.t rfl) (.t rfl)) rfl ?_
    refine RQ.nil (fun a hs w2 hS3 => CW.at [Y 0 (str s), Y 1 (i64 i), Y 6 (str [34, 92, 47, 98, 102, 110, 114, 116]), Y 7 (str [34, 92, 47, 8, 12, 10, 13, 9]), Y 8 (i64 k), Y 29 (.bool ((byteAt s (i + 1)) == (byteAt [34, 92, 47, 98, 102, 110, 114, 116] k)))] rfl ?_ a hs)
    refine CW.cond rfl ?_ ?_ <;> intro hb3 <;> try simp only [zb] at hb3
    ·refine CW.sr (RL.m rfl rfl (RL.m rfl rfl (RL.m rfl rfl (RL.u (.add (.t rfl) .c (fun _ => by omega)) rfl (RL.u (.slS (.t rfl) (.t rfl) (.t rfl) Tryz.underlying9 (fun _ => by omega)) rfl (RL.a rfl rfl (RL.u (.assign .c) rfl (RL.nil (CW.id ?_)))))))))
     refine CW.ret (hE.r2 rfl rfl rfl ?_)
     have he := esc_at (c := byteAt s (i + 1)) hk0 (by omega) hb3
     have hq : escS (escP (from' s i)) = (Eng.sub escTo k (k + 1), 2) := by rw [escS_short (by omega) (by rw [hb1']; exact he.1), hb1', he.2]
     rw [hq]; exact ⟨rfl, hS3.low⟩
    ·refine CW.skip (CW.id ?_)
     refine CW.region (RL.m rfl rfl (RL.u (.add (.t rfl) .c (fun _ => by omega)) rfl (RL.a rfl rfl ?_)))
     refine RL.nil fun a hs => Exists.intro (k + 1) ⟨hs.keep [0, 1, 6, 7, 8], ?_, ?_⟩
     ·refine ⟨hS3, ?_⟩
      exact ⟨by omega, by omega, hN.step hb3⟩
     ·show Int.toNat _ < Int.toNat _; omega
   ·have hsh : shIs (byteAt (from' s i) 1) = false := by rw [hb1']; exact hN.end' (by omega)
    refine CW.exit (CW.at [Y 0 (str s), Y 1 (i64 i)] rfl ?_)
    refine CW.sr (RL.m rfl rfl (RL.m rfl rfl ?_))
    refine RL.callS .none Tryz.call136 (.cons (.t rfl) (.cons (.t rfl) .nil)) (fun _ => (unit_c s i _ (by omega) (by omega) (by omega))) rfl ?_
    refine RL.a rfl rfl ?_
    refine RL.nil (CW.at [Y 0 (str s), Y 1 (i64 i), Y 9 (i64 (numP (from' s i)))] rfl (CW.seq (CW.sr (RL.m rfl rfl (RL.u (.lss (.t rfl) .c) rfl (RL.m rfl rfl (RL.v (.neg rfl rfl) (.move (.t rfl)) rfl (RL.v (.neg rfl rfl) (.geq (.g rfl (fun h => h)) .c) rfl (RL.v (.neg rfl rfl) (.move (.g rfl (fun h => h))) rfl ?_)))))))))
    refine RL.v (.posG rfl rfl) (.move (.t rfl)) rfl (RL.v (.posG rfl rfl) (.lss (.g rfl (fun h => h)) .c) rfl (RL.v (.neg rfl rfl) (.and (.g rfl (fun h => h)) (.g rfl (fun h => h))) rfl (RL.u (.or (.t rfl) (.g rfl (fun h => h))) rfl (RL.nil (CW.id ?_)))))
    refine CW.cond rfl ?_ ?_ <;> intro hb4 <;> try simp only [zb] at hb4
    ·refine CW.sr (RL.u (.assign .c) rfl (RL.u (.assign .c) rfl (RL.nil (CW.id (CW.ret (hE.r2 rfl rfl rfl ?_))))))
     clear hE
     have hE : escP (from' s i) = (0, 0) := by
      unfold escP
      try rw [hff]
      rw [if_neg (by first | assumption | omega | (simp_all; done) | grind), if_neg (by rw [hsh]; simp), if_pos (by first | assumption | omega | (simp_all; done) | grind)]
      try (first | rfl | (congr 1; omega))
     have hq : escS (escP (from' s i)) = ([], 0) := by rw [hE]; rfl
     rw [hq]; exact ⟨rfl, hS1.low⟩
    ·refine CW.skip (CW.id (CW.seq (CW.sr (RL.m rfl rfl (RL.u (.lss (.t rfl) .c) rfl (RL.m rfl rfl (RL.v (.neg rfl rfl) (.move (.t rfl)) rfl (RL.v (.neg rfl rfl) (.geq (.g rfl (fun h => h)) .c) rfl (RL.u (.or (.t rfl) (.g rfl (fun h => h))) rfl (RL.nil (CW.id ?_)))))))))))
     refine CW.cond rfl ?_ ?_ <;> intro hb5 <;> try simp only [zb] at hb5
     ·refine CW.sr (RL.m rfl rfl ?_)
      refine RL.callE hS1 .none Tryz.call137 (.cons (.t rfl) .nil) (fun _ => (utf3_c (numP (from' s i)) _ (by omega) (by omega))) rfl (fun w4 hS5 => ?_)
      refine RL.a rfl rfl (RL.u (.assign .c) rfl ?_)
      refine RL.nil (CW.at [Y 4 (str (toStr (Lib.encodeRuneZ (numP (from' s i))))), Y 5 (i64 6)] rfl (CW.ret (hE.r2 rfl rfl rfl ?_)))
      clear hE
      have hE : escP (from' s i) = (numP (from' s i), 6) := by
       unfold escP
       try rw [hff]
       rw [if_neg (by first | assumption | omega | (simp_all; done) | grind), if_neg (by rw [hsh]; simp), if_neg (by first | assumption | omega | (simp_all; done) | grind), if_pos (by first | assumption | omega | (simp_all; done) | grind)]
       try (first | rfl | (congr 1; omega))
      have hq : escS (escP (from' s i)) = (toStr (Lib.encodeRuneZ (numP (from' s i))), 6) := by rw [hE]; rfl
      rw [hq]; exact ⟨rfl, hS5.low⟩
     ·refine CW.skip (CW.id (CW.sr (RL.m rfl rfl (RL.m rfl rfl (RL.u (.add (.t rfl) .c (fun _ => by omega)) rfl ?_)))))
      refine RL.callS .none Tryz.call136 (.cons (.t rfl) (.cons (.t rfl) .nil)) (fun _ => (unit_c s (i + 6) _ (by omega) (by omega) (by omega))) rfl ?_
      refine RL.a rfl rfl ?_
      refine RL.nil (CW.at [Y 9 (i64 (numP (from' s i))), Y 10 (i64 (numP (from' s (i + 6))))] rfl (CW.seq (CW.sr (RL.m rfl rfl (RL.u (.lss (.t rfl) .c) rfl (RL.m rfl rfl (RL.v (.neg rfl rfl) (.move (.t rfl)) rfl (RL.v (.neg rfl rfl) (.geq (.g rfl (fun h => h)) .c) rfl (RL.u (.or (.t rfl) (.g rfl (fun h => h))) rfl (RL.nil (CW.id ?_)))))))))))
      refine CW.cond rfl ?_ ?_ <;> intro hb6 <;> try simp only [zb] at hb6
      ·refine CW.sr (RL.u (.assign .c) rfl (RL.u (.assign .c) rfl (RL.nil (CW.id (CW.ret (hE.r2 rfl rfl rfl ?_))))))
       clear hE
       have hE : escP (from' s i) = (0, 0) := by
        unfold escP
        try rw [hff]
        rw [if_neg (by first | assumption | omega | (simp_all; done) | grind), if_neg (by rw [hsh]; simp), if_neg (by first | assumption | omega | (simp_all; done) | grind), if_neg (by first | assumption | omega | (simp_all; done) | grind), if_pos (by first | assumption | omega | (simp_all; done) | grind)]
        try (first | rfl | (congr 1; omega))
       have hq : escS (escP (from' s i)) = ([], 0) := by rw [hE]; rfl
       rw [hq]; exact ⟨rfl, hS1.low⟩
      ·refine CW.skip (CW.id (CW.sr (RL.m rfl rfl (RL.u (.sub (.t rfl) .c (fun _ => by omega)) rfl (RL.u (.mul .c (.t rfl) (fun _ => by omega)) rfl (RL.u (.add .c (.t rfl) (fun _ => by omega)) rfl (RL.m rfl rfl (RL.u (.add (.t rfl) (.t rfl) (fun _ => by omega)) rfl (RL.u (.sub (.t rfl) .c (fun _ => by omega)) rfl ?_)))))))))
       refine RL.callE hS1 .none Tryz.call137 (.cons (.t rfl) .nil) (fun _ => (utf3_c (((65536 + (1024 * ((numP (from' s i)) - 55296))) + (numP (from' s (i + 6)))) - 56320) _ (by omega) (by omega))) rfl (fun w6 hS7 => ?_)
       refine RL.a rfl rfl (RL.u (.assign .c) rfl ?_)
       refine RL.nil (CW.at [Y 4 (str (toStr (Lib.encodeRuneZ (((65536 + (1024 * ((numP (from' s i)) - 55296))) + (numP (from' s (i + 6)))) - 56320)))), Y 5 (i64 12)] rfl (CW.ret (hE.r2 rfl rfl rfl ?_)))
       clear hE
       have hE : escP (from' s i) = (65536 + 1024 * (numP (from' s i) - 55296) + numP (from' s (i + 6)) - 56320, 12) := by
        unfold escP
        try rw [hff]
        rw [if_neg (by first | assumption | omega | (simp_all; done) | grind), if_neg (by rw [hsh]; simp), if_neg (by first | assumption | omega | (simp_all; done) | grind), if_neg (by first | assumption | omega | (simp_all; done) | grind), if_neg (by first | assumption | omega | (simp_all; done) | grind)]
        try (first | rfl | (congr 1; omega))
       have hq : escS (escP (from' s i)) = (toStr (Lib.encodeRuneZ (((65536 + (1024 * ((numP (from' s i)) - 55296))) + (numP (from' s (i + 6)))) - 56320)), 12) := by rw [hE]; rfl
       rw [hq]; exact ⟨rfl, hS7.low⟩

/- loupe/louperef03.taken -/
theorem taken_c (s : Str) (i : Int) (w : World) (h0 : 0 ≤ i) (h1 : i < len s) (hb : len s ≤ 1099511627776) :
  Calls Tryz.prog 77 [(str s), (i64 i)].toArray w fun e w' => e = .returned (.tuple #[(str ((takenR s i).1)), (i64 ((takenR s i).2))]) ∧ Ext w w' := by
 refine CW.enter1 Tryz.func77 rfl Tryz.ntmps77 (Nat.le_of_ble_eq_true rfl) fun Q hE => ?_
 have := len_nonneg s
 have hr := rune_bd s i
 have hr2 := rune_le s i h1
 have hS : St w nM w nM [] := St.start ⟨fun _ _ _ h => by cases h⟩
 refine CW.weaken [0, 1] (L' := [Y 0 (str s), Y 1 (i64 i)]) ?_ rfl
 refine CW.sr (RL.u (.assign .c) rfl (RL.u (.assign .c) rfl (RL.nil (CW.id (CW.seq ?_)))))
 refine CW.sr (RL.m rfl rfl (RL.m rfl rfl (RL.u (.idxS (.t rfl) (.t rfl) Tryz.underlying9 (fun _ => by omega)) rfl (RL.u (.eql (.t rfl) .c) rfl (RL.nil (CW.id ?_))))))
 refine CW.cond rfl ?_ ?_ <;> intro hb1 <;> try simp only [zb] at hb1
 ·refine CW.sr (RL.m rfl rfl (RL.m rfl rfl ?_))
  refine RL.callE hS .none Tryz.call107 (.cons (.t rfl) (.cons (.t rfl) .nil)) (fun _ => (escape3_c s i _ (by omega) (by omega) (by omega))) rfl (fun w1 hS2 => ?_)
  refine RL.u (.ex (.t rfl) rfl) rfl (RL.u (.ex (.t rfl) rfl) rfl (RL.a rfl rfl (RL.a rfl rfl ?_)))
  refine RL.nil (CW.at [Y 4 (str ((escS (escP (from' s i))).1)), Y 5 (i64 ((escS (escP (from' s i))).2))] rfl (CW.ret (hE.r2 rfl rfl rfl ?_)))
  have hq : takenR s i = escS (escP (from' s i)) := by unfold takenR; rw [if_pos hb1]
  rw [hq]; exact ⟨rfl, hS2.low⟩
 ·refine CW.skip (CW.id (CW.sr (RL.m rfl rfl (RL.m rfl rfl ?_))))
  refine RL.callS .none Tryz.call63 (.cons (.t rfl) (.cons (.t rfl) .nil)) (fun _ => (rune_c s i _ (by omega) (by omega) (by omega))) rfl ?_
  refine RL.a rfl rfl ?_
  refine RL.nil (CW.at [Y 0 (str s), Y 1 (i64 i), Y 6 (i64 (rune s i))] rfl (CW.sr (RL.m rfl rfl (RL.m rfl rfl (RL.m rfl rfl (RL.m rfl rfl (RL.u (.add (.t rfl) (.t rfl) (fun _ => by omega)) rfl (RL.u (.slS (.t rfl) (.t rfl) (.t rfl) Tryz.underlying9 (fun _ => by omega)) rfl (RL.m rfl rfl (RL.a rfl rfl (RL.a rfl rfl (RL.nil (CW.id ?_)))))))))))))
  refine CW.ret (hE.r2 rfl rfl rfl ?_)
  have hq : takenR s i = (Eng.sub s i (i + rune s i), rune s i) := by unfold takenR; rw [if_neg hb1]
  rw [hq]; exact ⟨rfl, hS.low⟩

/- loupe/louperef03.Unquote -/
theorem unquote3_c (s : Str) (w : World) (hb : len s ≤ 1099511627776) :
  Calls Tryz.prog 49 [(str s)].toArray w fun e w' => e = .returned (.tuple #[(str ((unqP s).1)), (i64 ((unqP s).2.1)), (i64 ((unqP s).2.2))]) ∧ Ext w w' := by
 refine CW.enter1 Tryz.func49 rfl Tryz.ntmps49 (Nat.le_of_ble_eq_true rfl) fun Q hE => ?_
 have := len_nonneg s
 have hl0 := @len_pos _ s
 have hS : St w nM w nM [] := St.start ⟨fun _ _ _ h => by cases h⟩
 refine CW.weaken [0] (L' := [Y 0 (str s)]) ?_ rfl
 refine CW.sr (RL.u (.assign .c) rfl (RL.u (.assign .c) rfl (RL.u (.assign .c) rfl (RL.nil (CW.id (CW.seq ?_))))))
 refine CW.sr (RL.m rfl rfl (RL.u (.seql (.t rfl) .c) rfl (RL.m rfl rfl (RL.v (.neg rfl rfl) (.move (.t rfl)) rfl (RL.v (.neg rfl rfl) (.idxS (.g rfl (fun h => h)) .c Tryz.underlying9 (fun hW => by simp only [zb] at hW; first | omega | (have := hl0 (by simpa using hW); omega))) rfl (RL.v (.neg rfl rfl) (.neq (.g rfl (fun h => h)) .c) rfl (RL.u (.or (.t rfl) (.g rfl (fun h => h))) rfl (RL.nil (CW.id ?_)))))))))
 refine CW.cond rfl ?_ ?_ <;> intro hb1 <;> try simp only [zb] at hb1
 ·refine CW.sr (RL.u (.assign .c) rfl (RL.u (.assign .c) rfl (RL.u (.assign .c) rfl (RL.nil (CW.id (CW.ret (hE.r3 rfl rfl rfl rfl ?_)))))))
  have hq : unqP s = ([], 0, 1) := by unfold unqP; rw [if_neg (by rw [pre_one]; rintro ⟨h1, h2⟩; rcases hb1 with h | h; exact h1 h; exact h h2)]
  rw [hq]; exact ⟨rfl, hS.low⟩
 ·refine CW.skip (CW.id (CW.sr (RL.u (.assign .c) rfl (RL.nil (CW.id ?_)))))
  refine CW.sr (RL.u (.assign .c) rfl (RL.nil (CW.id (CW.seq ?_))))
  refine CW.block ?_
  refine CW.loop (σ := Nat × Int × Str) (fun (f, i, o) => [Y 0 (str s), Y 5 (str o), Y 6 (i64 i)]) (fun (f, i, o) wl => St w nM wl nM [] ∧ 1 ≤ i ∧ i ≤ len s ∧ UnqInv f s i o ∧ (len s - i).toNat ≤ f ∧ len o ≤ 4 * i) (fun (f, i, o) => (len s - i).toNat) ((s.length, 1, [])) [0, 5, 6] rfl ?_ ?_
  ·refine ⟨hS, ?_⟩; exact ⟨Int.le_refl _, by have := hl0 (by simp_all); omega, ⟨[], rfl, by unfold unqP; rw [if_pos (pre_one.2 (by simp_all))]⟩, by unfold len; omega, by decide⟩
  ·rintro ⟨f, i, o⟩ wl ⟨hS1, h0, h1, hU, hf, hlen⟩
   have htb := fun h => takenR_bd (s := s) (i := i) (by omega) h
   have hlo := len_nonneg o
   have hlt2 := len_nonneg (takenR s i).1
   refine CW.seq (CW.sr (RL.m rfl rfl (RL.m rfl rfl (RL.u (.lenS (.t rfl) Tryz.underlying9) rfl (RL.u (.lss (.t rfl) (.t rfl)) rfl (RL.nil (CW.id ?_)))))))
   refine CW.cond rfl ?_ ?_ <;> intro hb2 <;> try simp only [zb] at hb2
   ·refine CW.skip (CW.id (CW.block (CW.seq (CW.sr ?_))))
    refine RL.m rfl rfl (RL.m rfl rfl (RL.u (.idxS (.t rfl) (.t rfl) Tryz.underlying9 (fun _ => by first | omega | (have := hl0 (by simpa using hW); omega))) rfl (RL.u (.eql (.t rfl) .c) rfl (RL.nil (CW.id ?_)))))
    refine CW.cond rfl ?_ ?_ <;> intro hb3 <;> try simp only [zb] at hb3
    ·refine CW.sr (RL.m rfl rfl (RL.m rfl rfl (RL.u (.add (.t rfl) .c (fun _ => by first | omega | (have := hl0 (by simpa using hW); omega))) rfl (RL.a rfl rfl (RL.a rfl rfl (RL.u (.assign .c) rfl (RL.nil (CW.id (CW.ret (hE.r3 rfl rfl rfl rfl ?_))))))))))
     rw [hU.quote hf (by omega) hb2 hb3]; exact ⟨rfl, hS1.low⟩
    ·refine CW.skip (CW.id (CW.sr (RL.m rfl rfl (RL.m rfl rfl ?_))))
     refine RL.callE hS1 .none Tryz.call77 (.cons (.t rfl) (.cons (.t rfl) .nil)) (fun _ => (taken_c s i _ (by omega) (by omega) (by omega))) rfl (fun w2 hS3 => ?_)
     refine RL.m rfl rfl (RL.u (.ex (.t rfl) rfl) rfl (RL.u (.ex (.t rfl) rfl) rfl (RL.a rfl rfl (RL.a rfl rfl ?_))))
     refine RL.nil (CW.at [Y 0 (str s), Y 5 (str o), Y 6 (i64 i), Y 7 (str ((takenR s i).1)), Y 8 (i64 ((takenR s i).2))] rfl (CW.seq (CW.sr (RL.m rfl rfl (RL.u (.eql (.t rfl) .c) rfl (RL.m rfl rfl (RL.v (.neg rfl rfl) (.move (.t rfl)) rfl (RL.v (.neg rfl rfl) (.move (.t rfl)) rfl (RL.v (.neg rfl rfl) (.idxS (.g rfl (fun h => h)) (.g rfl (fun h => h)) Tryz.underlying9 (fun hW => by simp only [zb] at hW; first | omega | (have := hl0 (by simpa using hW); omega))) rfl ?_)))))))))
     refine RL.v (.neg rfl rfl) (.lss (.g rfl (fun h => h)) .c) rfl (RL.u (.or (.t rfl) (.g rfl (fun h => h))) rfl (RL.nil (CW.id ?_)))
     refine CW.cond rfl ?_ ?_ <;> intro hb4 <;> try simp only [zb] at hb4
     ·refine CW.sr (RL.m rfl rfl (RL.u (.assign .c) rfl (RL.a rfl rfl (RL.u (.assign .c) rfl (RL.nil (CW.id (CW.ret (hE.r3 rfl rfl rfl rfl ?_))))))))
      clear hE
      rw [hU.bad hf (by omega) hb2 hb3 (by simp_all)]; exact ⟨rfl, hS3.low⟩
     ·refine CW.skip (CW.id (CW.sr (RL.m rfl rfl (RL.m rfl rfl (RL.u (.sadd (.t rfl) (.t rfl) (fun _ => by first | omega | (have := hl0 (by simpa using hW); omega))) rfl (RL.a rfl rfl (RL.nil (CW.id ?_))))))))
      refine CW.region (RL.m rfl rfl (RL.m rfl rfl (RL.u (.add (.t rfl) (.t rfl) (fun _ => by first | omega | (have := hl0 (by simpa using hW); omega))) rfl (RL.a rfl rfl ?_))))
      refine RL.nil fun a hs => Exists.intro ((f - 1, i + (takenR s i).2, o ++ (takenR s i).1)) ⟨hs.keep [0, 5, 6], ?_, ?_⟩
      ·refine ⟨hS3, ?_⟩
       have hst := hU.step hf (by omega) hb2 hb3 (by simp_all)
       exact ⟨by omega, by omega, hst, by omega, by rw [len_app]; omega⟩
      ·show Int.toNat _ < Int.toNat _; omega
   ·refine CW.exit (CW.at [Y 0 (str s)] rfl ?_)
    refine CW.sr (RL.m rfl rfl (RL.u (.lenS (.t rfl) Tryz.underlying9) rfl (RL.u (.assign .c) rfl (RL.a rfl rfl (RL.u (.assign .c) rfl (RL.nil (CW.id (CW.ret (hE.r3 rfl rfl rfl rfl ?_)))))))))
    rw [hU.end' hb2]; exact ⟨rfl, hS1.low⟩

end Go.Proofs.YtjfaikgooldcbaaGreatDoor
set_option maxRecDepth 100000
namespace Go.Proofs.YtjfaikgooldcbaaGreatDoor
open Go.Eng

def RefOK (s : Str) (f : Nat) : Prop := ∀ (i d : Int) (w : World) (M : Mem), Sat w M → 0 ≤ i → i ≤ len s → 0 ≤ d → d ≤ 128 → 2 * (len s - i) + 1 ≤ f → Calls Tryz.prog 29 [str s, i64 i, i64 d].toArray w (GotC w M (valT f s i d))
theorem goodV_wf {q D : Int} {x : Vl} (h : GoodV q D x) : WfV x := by
  obtain ⟨t, h1, h2, h3, _⟩ := h; exact ⟨t, h1, Tr.good_wf h2, h3⟩
theorem list4_c (s : Str) (i d : Int) (f : Nat) (w : World) (M : Mem) (hM : Sat w M) (h0 : 0 ≤ i) (h1 : i < len s) (hb : len s ≤ 200000) (hd : 0 ≤ d ∧ d < 128) (hf : 2 * (len s - i) ≤ f) (ih : ∀ f2, f2 < f → RefOK s f2) :
  Calls Tryz.prog 51 [str s, i64 i, i64 d].toArray w (GotC w M (mapR listV (partsT s i [93] [] (itemsT f s d)))) := by
 have hbl := blankTo_bd s (i + 1) (by omega) (by omega)
 refine xenter ttok Tryz.func51 rfl Tryz.ntmps51 [] [] [.v (str s), I i, I d] rfl (St.start hM) fnil (fun B hB => ?_) rfl
 refine xalloc 0 rfl (eok rfl) (by omega) Tryz.zeroValue59 rfl fun b => ?_
 refine xlit 1 [] valI 1 24 valI_len rfl (eok rfl) (by omega) rfl (eok rfl) (fun w => by kernel_rfl) rfl fun v1 => ?_
 refine xcall rfl (eok rfl) (by omega) Tryz.call30 rfl rfl (eok rfl) (fun _ w M hX => sameE (blank_c s (i + 1) w (by omega) (by omega) (by omega))) rfl ?_
 refine xcall rfl (eok rfl) (by omega) Tryz.call47 rfl rfl (eok rfl) (fun _ w M hX => has4_c s [93] (blankTo s (i + 1)) w (by omega) (by omega) (by omega) (by decide)) rfl ?_
 refine xbr rfl (eok rfl) (by omega) (fun hb1 => ?_) (fun hb1 => ?_)
 ·refine xcallM (fun v : Value => .sl 2 v) [2] rfl (eok rfl) (by omega) rfl Tryz.call24 rfl rfl (eok rfl) (fun w M hX => list2_c v1 [] [] w M hX.st.sat ⟨hX.sl 1 rfl, valI_len, trivial⟩ (by decide) (by decide)) (fun _ => rfl) fun v2 _ => ?_
  exact xret hB rfl rfl (eok rfl) (by have := hasW_le (by omega) hbl.2 hb1; omega) rfl (eok rfl) fun w M hX => GotC.ok (by rw [partsT_end hb1]; rfl) hX.st.done (hX.sl 2 rfl)
 rw [partsT_go hb1] at hB
 refine run_ok rfl (eok rfl) (by omega) (xknow 6 (kr v1 [] []) (fun w M hX => ⟨hX.sl 1 rfl, valI_len, trivial⟩) ?_)
 refine xloop (σ := Nat × Int × Value × List SlH × List Vl) (fun (f', k, v, hs, xs) => ⟨[(1, kn v 1 hs valI), (6, kr v hs xs)], [(0, .box b [.v (.slice none 0 0), I 0, I 0] 59), (1, .ho (ownV v hs))], [Z 0 (.v (str s)), Z 1 (I k), Z 2 (I d), Z 6 (.bx 0 b 0), Z 7 (.sl 1 v)]⟩)
   (fun (f', k, v, hs, xs) => itemsT f' s d xs k = itemsT f s d [] (blankTo s (i + 1)) ∧ i < k ∧ k ≤ len s ∧ 2 * (len s - k) + 2 ≤ f' ∧ f' ≤ f ∧ len hs ≤ k ∧ len xs.flatten ≤ k) (fun (f', k, v, hs, xs) => f') (f, blankTo s (i + 1), v1, [], []) rfl (eok rfl) (by omega) rfl ⟨rfl, by omega, by omega, by omega, Nat.le_refl _, by rw [len_nil]; omega, by show len ([] : Vl) ≤ _; rw [len_nil]; omega⟩ ?_
 rintro ⟨f1, k, v, hs, xs⟩ ⟨hT, hk0, hk1, hkf, hff, hhs, hxs⟩
 obtain ⟨f2, rfl⟩ : ∃ f2, f1 = f2 + 1 := ⟨f1 - 1, by omega⟩
 have hok := (val_ok (s := s) f2).1 k (d + 1) (by omega) hk1 (by omega) (by omega)
 have hhn := len_nonneg hs
 rw [← hT, itemsT] at hB
 rcases hv : valT f2 s k (d + 1) with ⟨x, j⟩ | ⟨e, p⟩
 ·rw [hv] at hok hB
  obtain ⟨hgx, hj1, hj0, hj2⟩ := hok
  have hwx := goodV_wf hgx
  have hxp := len_pos hwx.ne
  have hbj := blankTo_bd s j hj0 hj2
  refine xcallM (fun h : SlH => .ag [.sl 2 h.v, I j, I 0]) [2] rfl (eok rfl) (by omega) rfl Tryz.call29 rfl rfl (eok rfl) (fun w M hX => by have := ih f2 (by omega) k (d + 1) w M hX.st.sat (by omega) hk1 (by omega) (by omega) (by omega); rw [hv] at this; exact this) (fun _ => rfl) fun h _ => ?_
  refine xalloc 3 rfl (eok rfl) (by omega) Tryz.zeroValue59 rfl fun b3 => ?_
  refine xbr rfl (eok rfl) (by omega) (fun hc => absurd hc (by decide)) (fun _ => ?_)
  refine xlit 4 [h] valI 1 24 valI_len rfl (eok rfl) (by omega) rfl (eok rfl) (fun w => by kernel_rfl) rfl fun v4 => ?_
  refine xapp 24 rfl (eok rfl) (by omega) rfl (eok rfl) rfl Tryz.underlying47 Tryz.type24 rfl rfl valI_one (by simp only [len_cons, len_nil]; omega) fun v' => ?_
  refine xcall rfl (eok rfl) (by omega) Tryz.call30 rfl rfl (eok rfl) (fun _ w M hX => sameE (blank_c s j w (by omega) (by omega) (by omega))) rfl ?_
  refine xcall rfl (eok rfl) (by omega) Tryz.call47 rfl rfl (eok rfl) (fun _ w M hX => has4_c s [93] (blankTo s j) w (by omega) (by omega) (by omega) (by decide)) rfl ?_
  have hxf : len (xs ++ [x]).flatten = len xs.flatten + len x := by simp [len]
  have hhl : len (hs ++ [h]) = len hs + 1 := by rw [len_app]; rfl
  refine xbr rfl (eok rfl) (by omega) (fun hb2 => ?_) (fun hb2 => ?_)
  ·have hjw := hasW_le (by omega) hbj.2 hb2
   rw [len_cons, len_nil] at hjw
   refine xcallM (fun v : Value => .sl 5 v) [5] rfl (eok rfl) (by omega) rfl Tryz.call24 rfl rfl (eok rfl) (fun w M hX => list2_c v' (hs ++ [h]) (xs ++ [x]) w M hX.st.sat ⟨hX.sl 1 rfl, valI_len, RowsV.snoc (hX.sl 2 rfl) (hX.f.get (k := 6) rfl).more⟩ (by omega) (by omega)) (fun _ => rfl) fun v5 _ => ?_
   refine xret hB rfl rfl (eok rfl) (by omega) rfl (eok rfl) fun w M hX => GotC.ok ?_ hX.st.done (hX.sl 5 rfl)
   simp only [mapR, moreT_end hb2]
  ·refine xcall rfl (eok rfl) (by omega) Tryz.call47 rfl rfl (eok rfl) (fun _ w M hX => has4_c s [44] (blankTo s j) w (by omega) (by omega) (by omega) (by decide)) rfl ?_
   refine xbr rfl (eok rfl) (by omega) (fun hb3 => ?_) (fun hb3 => ?_) <;> simp only [zb] at hb3
   ·refine xcall rfl (eok rfl) (by omega) Tryz.call48 rfl rfl (eok rfl) (fun _ w M hX => bad4_c _ _ w) rfl ?_
    refine xret hB rfl rfl (eok rfl) (by omega) rfl (eok rfl) fun w M hX => GotC.er hM ?_ hX.st.low
    simp only [mapR, moreT_bad hb2 hb3]
   ·have hjw := hasW_le (by omega) hbj.2 hb3
    rw [len_cons, len_nil] at hjw
    have hbk := blankTo_bd s (blankTo s j + 1) (by omega) (by omega)
    refine xcall rfl (eok rfl) (by omega) Tryz.call30 rfl rfl (eok rfl) (fun _ w M hX => sameE (blank_c s (blankTo s j + 1) w (by omega) (by omega) (by omega))) rfl ?_
    refine run_ok rfl (eok rfl) (by omega) (xknow 6 (kr v' (hs ++ [h]) (xs ++ [x])) (fun w M hX => ⟨hX.sl 1 rfl, valI_len, RowsV.snoc (hX.sl 2 rfl) (hX.f.get (k := 6) rfl).more⟩) ?_)
    exact xround (f2, blankTo s (blankTo s j + 1), v', hs ++ [h], xs ++ [x]) rfl (eok rfl) (by omega) rfl ⟨by rw [← hT, itemsT, hv]; simp only [mapR, moreT_more hb2 hb3], by omega, by omega, by omega, by omega, by omega, by omega⟩ (by show f2 < f2 + 1; omega)
 ·rw [hv] at hok hB
  refine xcallM (fun h : SlH => .ag [.sl 2 h.v, I p, I e]) [2] rfl (eok rfl) (by omega) rfl Tryz.call29 rfl rfl (eok rfl) (fun w M hX => by have := ih f2 (by omega) k (d + 1) w M hX.st.sat (by omega) hk1 (by omega) (by omega) (by omega); rw [hv] at this; exact this) (fun _ => rfl) fun h _ => ?_
  refine xalloc 3 rfl (eok rfl) (by omega) Tryz.zeroValue59 rfl fun b3 => ?_
  refine xbr rfl (eok rfl) (by omega) (fun _ => ?_) (fun hc => absurd hc (by simp only [zb]; exact hok.1))
  exact xret hB rfl rfl (eok rfl) (by omega) rfl (eok rfl) fun w M hX => ⟨h, M, rfl, trivial, hX.st.done, fc 0 (hX.sl 2 rfl) Nd.cells_len fnil⟩
end Go.Proofs.YtjfaikgooldcbaaGreatDoor
set_option maxRecDepth 100000
namespace Go.Proofs.YtjfaikgooldcbaaGreatDoor
open Go.Eng

theorem objV_nil : objV [] = [⟨6, 0, [], [], false, 0⟩] := by simp [objV, sortN, laidV, len]
theorem mapG_w {q D : Int} {m : List (Str × Vl)} (h : MapG q D m) : MapW m := ⟨h.1, fun p hp => goodV_wf (h.2 p hp).2.2⟩
theorem object4_c (s : Str) (i d : Int) (f : Nat) (w : World) (M : Mem) (hM : Sat w M) (h0 : 0 ≤ i) (h1 : i < len s) (hb : len s ≤ 200000) (hd : 0 ≤ d ∧ d < 128) (hf : 2 * (len s - i) ≤ f) (ih : ∀ f2, f2 < f → RefOK s f2) :
  Calls Tryz.prog 52 [str s, i64 i, i64 d].toArray w (GotC w M (mapR objV (partsT s i [125] [] (pairsT f s d)))) := by
 have hbl := blankTo_bd s (i + 1) (by omega) (by omega)
 refine xenter ttok Tryz.func52 rfl Tryz.ntmps52 [] [] [.v (str s), I i, I d] rfl (St.start hM) fnil (fun B hB => ?_) rfl
 refine xalloc 0 rfl (eok rfl) (by omega) Tryz.zeroValue59 rfl fun b => ?_
 refine xlit 1 [⟨6, 0, [], [], false, 0⟩] Nd.cells 6 38 Nd.cells_len rfl (eok rfl) (by omega) rfl (eok rfl) (fun w => by kernel_rfl) rfl fun v1 => ?_
 refine xcall rfl (eok rfl) (by omega) Tryz.call30 rfl rfl (eok rfl) (fun _ w M hX => sameE (blank_c s (i + 1) w (by omega) (by omega) (by omega))) rfl ?_
 refine xcall rfl (eok rfl) (by omega) Tryz.call47 rfl rfl (eok rfl) (fun _ w M hX => has4_c s [125] (blankTo s (i + 1)) w (by omega) (by omega) (by omega) (by decide)) rfl ?_
 refine xbr rfl (eok rfl) (by omega) (fun hb1 => ?_) (fun hb1 => ?_)
 ·exact xret hB rfl rfl (eok rfl) (by have := hasW_le (by omega) hbl.2 hb1; omega) rfl (eok rfl) fun w M hX => GotC.ok (by rw [partsT_end hb1]; rfl) hX.st.done (by rw [objV_nil]; exact hX.sl 1 rfl)
 rw [partsT_go hb1] at hB
 refine run_ok rfl (eok rfl) (by omega) (xknow 1 (kn v1 6 (objV []) Nd.cells) (fun w M hX => ⟨by rw [objV_nil]; exact hX.sl 1 rfl, Nd.cells_len, trivial⟩) ?_)
 refine xloop (σ := Nat × Int × Value × List (Str × Vl)) (fun (f', k, v, m) => ⟨[(1, kn v 6 (objV m) Nd.cells)], [(0, .box b [.v (.slice none 0 0), I 0, I 0] 59)], [Z 0 (.v (str s)), Z 1 (I k), Z 2 (I d), Z 6 (.bx 0 b 0), Z 7 (.sl 1 v)]⟩)
   (fun (f', k, v, m) => pairsT f' s d m k = pairsT f s d [] (blankTo s (i + 1)) ∧ i < k ∧ k ≤ len s ∧ 2 * (len s - k) + 2 ≤ f' ∧ f' ≤ f ∧ MapG (4 * len s + 100) (128 - (d + 1)) m ∧ mapN m ≤ k) (fun (f', k, v, m) => f') (f, blankTo s (i + 1), v1, []) rfl (eok rfl) (by omega) rfl ⟨rfl, by omega, by omega, by omega, Nat.le_refl _, MapG.nil, by show (0 : Int) ≤ _; omega⟩ ?_
 rintro ⟨f1, k, v, m⟩ ⟨hT, hk0, hk1, hkf, hff, hmg, hmn⟩
 obtain ⟨f2, rfl⟩ : ∃ f2, f1 = f2 + 1 := ⟨f1 - 1, by omega⟩
 have hfl := from_len s k (by omega) hk1
 have hub := unqP_bd (from' s k)
 rw [← hT, pairsT] at hB
 refine xcall rfl (eok rfl) (by omega) Tryz.call49 rfl rfl (eok rfl) (fun _ w M hX => unquote3_c (from' s k) w (by omega)) rfl ?_
 refine xbr rfl (eok rfl) (by omega) (fun hb2 => ?_) (fun hb2 => ?_) <;> simp only [zb] at hb2
 ·refine xcall rfl (eok rfl) (by omega) Tryz.call48 rfl rfl (eok rfl) (fun _ w M hX => bad4_c _ _ w) rfl ?_
  refine xret hB rfl rfl (eok rfl) (by omega) rfl (eok rfl) fun w M hX => GotC.er hM ?_ hX.st.low
  rw [pairT_txt1 (textT_er hb2)]; rfl
 ·have htx := textT_ok (s := s) (i := k) hb2
  have hto := text_ok (s := s) (i := k) (by omega) hk1
  rw [htx] at hto
  obtain ⟨⟨hu1, hu2⟩, hj1, hj0, hj2⟩ := hto
  have hj1' : (2 : Int) + k ≤ k + (unqP (from' s k)).2.1 := hj1
  have hbj := blankTo_bd s (k + (unqP (from' s k)).2.1) hj0 hj2
  refine xcall rfl (eok rfl) (by omega) Tryz.call30 rfl rfl (eok rfl) (fun _ w M hX => sameE (blank_c s (k + (unqP (from' s k)).2.1) w hj0 hj2 (by omega))) rfl ?_
  refine xcall rfl (eok rfl) (by omega) Tryz.call47 rfl rfl (eok rfl) (fun _ w M hX => has4_c s [58] (blankTo s (k + (unqP (from' s k)).2.1)) w (by omega) (by omega) (by omega) (by decide)) rfl ?_
  refine xbr rfl (eok rfl) (by omega) (fun hb3 => ?_) (fun hb3 => ?_) <;> simp only [zb] at hb3
  ·refine xcall rfl (eok rfl) (by omega) Tryz.call48 rfl rfl (eok rfl) (fun _ w M hX => bad4_c _ _ w) rfl ?_
   refine xret hB rfl rfl (eok rfl) (by omega) rfl (eok rfl) fun w M hX => GotC.er hM ?_ hX.st.low
   rw [pairT_bad htx hb3]; rfl
  ·have hjw := hasW_le (by omega) hbj.2 hb3
   rw [len_cons, len_nil] at hjw
   have hbv := blankTo_bd s (blankTo s (k + (unqP (from' s k)).2.1) + 1) (by omega) (by omega)
   have hok := (val_ok (s := s) f2).1 _ (d + 1) (by omega) hbv.2 (by omega) (by omega)
   rw [pairT_val htx hb3] at hB
   refine xcall rfl (eok rfl) (by omega) Tryz.call30 rfl rfl (eok rfl) (fun _ w M hX => sameE (blank_c s (blankTo s (k + (unqP (from' s k)).2.1) + 1) w (by omega) (by omega) (by omega))) rfl ?_
   rcases hv : valT f2 s (blankTo s (blankTo s (k + (unqP (from' s k)).2.1) + 1)) (d + 1) with ⟨x, j⟩ | ⟨e, p⟩
   ·rw [hv] at hok hB
    obtain ⟨hgx, hl1, hl0, hl2⟩ := hok
    have hwx := goodV_wf hgx
    have hxp := len_pos hwx.ne
    have hbz := blankTo_bd s j hl0 hl2
    have hpn := putV_n (unqP (from' s k)).1 x m
    have hoe := objV_len (mapG_w hmg)
    have hmp : MapG (4 * len s + 100) (128 - (d + 1)) (putV m (unqP (from' s k)).1 x) := hmg.put ⟨hu1, by omega, hgx⟩
    refine xcallM (fun h : SlH => .ag [.sl 2 h.v, I j, I 0]) [2] rfl (eok rfl) (by omega) rfl Tryz.call29 rfl rfl (eok rfl) (fun w M hX => by have := ih f2 (by omega) _ (d + 1) w M hX.st.sat (by omega) hbv.2 (by omega) (by omega) (by omega); rw [hv] at this; exact this) (fun _ => rfl) fun h _ => ?_
    refine xalloc 3 rfl (eok rfl) (by omega) Tryz.zeroValue59 rfl fun b3 => ?_
    refine xbr rfl (eok rfl) (by omega) (fun hc => absurd hc (by decide)) (fun _ => ?_)
    refine xcallM (fun v : Value => .sl 1 v) [1] rfl (eok rfl) (by omega) rfl Tryz.call79 rfl rfl (eok rfl) (fun w M hX => with_c m (unqP (from' s k)).1 x v h.v w M hX.st.sat (hX.sl 1 rfl) (hX.sl 2 rfl) (mapG_w hmg) hwx (by omega) (fun n hn => by
      obtain ⟨y, hy⟩ := getV_in hn
      have := hmg.2 _ hy.2
      exact ⟨this.1, by have h9 : len n ≤ 4 * len s + 100 := this.2.1; omega⟩) ⟨hu1, by omega⟩) (fun _ => rfl) fun v' _ => ?_
    refine xcall rfl (eok rfl) (by omega) Tryz.call30 rfl rfl (eok rfl) (fun _ w M hX => sameE (blank_c s j w (by omega) (by omega) (by omega))) rfl ?_
    refine xcall rfl (eok rfl) (by omega) Tryz.call47 rfl rfl (eok rfl) (fun _ w M hX => has4_c s [125] (blankTo s j) w (by omega) (by omega) (by omega) (by decide)) rfl ?_
    refine xbr rfl (eok rfl) (by omega) (fun hb4 => ?_) (fun hb4 => ?_)
    ·have hjz := hasW_le (by omega) hbz.2 hb4
     rw [len_cons, len_nil] at hjz
     refine xret hB rfl rfl (eok rfl) (by omega) rfl (eok rfl) fun w M hX => GotC.ok ?_ hX.st.done (hX.sl 1 rfl)
     simp only [mapR, moreT_end hb4]
    ·refine xcall rfl (eok rfl) (by omega) Tryz.call47 rfl rfl (eok rfl) (fun _ w M hX => has4_c s [44] (blankTo s j) w (by omega) (by omega) (by omega) (by decide)) rfl ?_
     refine xbr rfl (eok rfl) (by omega) (fun hb5 => ?_) (fun hb5 => ?_) <;> simp only [zb] at hb5
     ·refine xcall rfl (eok rfl) (by omega) Tryz.call48 rfl rfl (eok rfl) (fun _ w M hX => bad4_c _ _ w) rfl ?_
      refine xret hB rfl rfl (eok rfl) (by omega) rfl (eok rfl) fun w M hX => GotC.er hM ?_ hX.st.low
      simp only [mapR, moreT_bad hb4 hb5]
     ·have hjz := hasW_le (by omega) hbz.2 hb5
      rw [len_cons, len_nil] at hjz
      have hbk := blankTo_bd s (blankTo s j + 1) (by omega) (by omega)
      refine xcall rfl (eok rfl) (by omega) Tryz.call30 rfl rfl (eok rfl) (fun _ w M hX => sameE (blank_c s (blankTo s j + 1) w (by omega) (by omega) (by omega))) rfl ?_
      exact xround (f2, blankTo s (blankTo s j + 1), v', putV m (unqP (from' s k)).1 x) rfl (eok rfl) (by omega) rfl ⟨by rw [← hT, pairsT, pairT_val htx hb3, hv]; simp only [mapR, moreT_more hb4 hb5], by omega, by omega, by omega, by omega, hmp, by omega⟩ (by show f2 < f2 + 1; omega)
   ·rw [hv] at hok hB
    refine xcallM (fun h : SlH => .ag [.sl 2 h.v, I p, I e]) [2] rfl (eok rfl) (by omega) rfl Tryz.call29 rfl rfl (eok rfl) (fun w M hX => by have := ih f2 (by omega) _ (d + 1) w M hX.st.sat (by omega) hbv.2 (by omega) (by omega) (by omega); rw [hv] at this; exact this) (fun _ => rfl) fun h _ => ?_
    refine xalloc 3 rfl (eok rfl) (by omega) Tryz.zeroValue59 rfl fun b3 => ?_
    refine xbr rfl (eok rfl) (by omega) (fun _ => ?_) (fun hc => absurd hc (by simp only [zb]; exact hok.1))
    exact xret hB rfl rfl (eok rfl) (by omega) rfl (eok rfl) fun w M hX => ⟨h, M, rfl, trivial, hX.st.done, fc 0 (hX.sl 2 rfl) Nd.cells_len fnil⟩
end Go.Proofs.YtjfaikgooldcbaaGreatDoor
set_option maxRecDepth 100000
namespace Go.Proofs.YtjfaikgooldcbaaGreatDoor
open Go.Eng

theorem value4_c (s : Str) (i d : Int) (f : Nat) (w : World) (M : Mem) (hM : Sat w M) (h0 : 0 ≤ i) (h1 : i ≤ len s) (hb : len s ≤ 200000) (hd : 0 ≤ d ∧ d ≤ 128) (hf : 2 * (len s - i) ≤ f) (ih : ∀ f2, f2 < f → RefOK s f2) :
  Calls Tryz.prog 29 [str s, i64 i, i64 d].toArray w (GotC w M (valT (f + 1) s i d)) := by
 have hw3 : len wordsT = 3 := rfl
 refine xenter ttok Tryz.func29 rfl Tryz.ntmps29 [] [] [.v (str s), I i, I d] rfl (St.start hM) fnil (fun B hB => ?_) rfl
 refine xalloc 0 rfl (eok rfl) (by omega) Tryz.zeroValue59 rfl fun b => ?_
 refine xlit 1 wordsT strC 1 9 strC_len rfl (eok rfl) (by omega) rfl (eok rfl) (fun w => by kernel_rfl) rfl fun v1 => ?_
 refine xloop (fun k => ⟨[(1, kn v1 1 wordsT strC)], [(0, .box b [.v (.slice none 0 0), I 0, I 0] 59)], [Z 0 (.v (str s)), Z 1 (I i), Z 2 (I d), Z 6 (.bx 0 b 0), Z 7 (.sl 1 v1), Z 8 (I k)]⟩) (fun k => 0 ≤ k ∧ k ≤ 3 ∧ NoW s i k) (fun k => (3 - k).toNat) 0 rfl (eok rfl) (by omega) rfl ⟨by omega, by omega, fun m h0 h1 => by omega⟩ ?_
 rintro k ⟨hk0, hk1, hno⟩
 refine xbr rfl (eok rfl) (by omega) (fun hb1 => ?_) (fun hb1 => ?_) <;> simp only [zb] at hb1
 ·have hwl := words_len k hk0 hb1
  refine xcall rfl (eok rfl) (by omega) Tryz.call47 rfl rfl (eok rfl) (fun _ w M hX => has4_c s (at' wordsT k) i w h0 h1 (by omega) (by omega)) rfl ?_
  refine xbr rfl (eok rfl) (by omega) (fun hb2 => ?_) (fun hb2 => ?_)
  ·refine xlit 2 [kindN k] Nd.cells 6 38 Nd.cells_len rfl (eok rfl) (by omega) rfl (eok rfl) (fun w => by kernel_rfl) rfl fun v2 => ?_
   exact xret hB rfl rfl (eok rfl) (by omega) rfl (eok rfl) fun w M hX => GotC.ok (valT_word hk0 hb1 hno hb2) hX.st.done (hX.sl 2 rfl)
  ·exact xround (k + 1) rfl (eok rfl) (by omega) rfl ⟨by omega, by omega, hno.step hb2⟩ (by show Int.toNat _ < Int.toNat _; omega)
 ·have hk3 : k = 3 := by omega
  subst hk3
  rw [valT_go f d hno] at hB
  refine xbr rfl (eok rfl) (by omega) (fun hb2 => ?_) (fun hb2 => ?_) <;> simp only [zb] at hb2
  ·rw [if_pos hb2] at hB
   refine xcall rfl (eok rfl) (by omega) Tryz.call48 rfl rfl (eok rfl) (fun _ w M hX => bad4_c _ _ w) rfl ?_
   exact xret hB rfl rfl (eok rfl) (by omega) rfl (eok rfl) fun w M hX => GotC.er hM rfl hX.st.low
  rw [if_neg hb2] at hB
  have hil : i < len s := by omega
  refine xbr rfl (eok rfl) (by omega) (fun hb3 => ?_) (fun hb3 => ?_) <;> simp only [zb] at hb3
  ·rw [if_pos hb3] at hB
   have hfl := from_len s i h0 h1
   have hub := unqP_bd (from' s i)
   refine xcall rfl (eok rfl) (by omega) Tryz.call49 rfl rfl (eok rfl) (fun _ w M hX => unquote3_c (from' s i) w (by omega)) rfl ?_
   refine xbr rfl (eok rfl) (by omega) (fun hb4 => ?_) (fun hb4 => ?_) <;> simp only [zb] at hb4
   ·rw [textT_er hb4] at hB
    refine xcall rfl (eok rfl) (by omega) Tryz.call48 rfl rfl (eok rfl) (fun _ w M hX => bad4_c _ _ w) rfl ?_
    exact xret hB rfl rfl (eok rfl) (by omega) rfl (eok rfl) fun w M hX => GotC.er hM rfl hX.st.low
   ·rw [textT_ok hb4] at hB
    refine xlit 2 [⟨4, 0, [], (unqP (from' s i)).1, false, 0⟩] Nd.cells 6 38 Nd.cells_len rfl (eok rfl) (by omega) rfl (eok rfl) (fun w => by kernel_rfl) rfl fun v2 => ?_
    exact xret hB rfl rfl (eok rfl) (by omega) rfl (eok rfl) fun w M hX => GotC.ok rfl hX.st.done (hX.sl 2 rfl)
  rw [if_neg hb3] at hB
  refine xbr rfl (eok rfl) (by simp only [zb] <;> omega) (fun hb4 => ?_) (fun hb4 => ?_) <;> simp only [zb] at hb4
  ·rw [if_pos (hb4.imp id fun h => by unfold isFig; simp only [zb]; exact h)] at hB
   refine xcallM (fun h : SlH => .ag [.sl 2 h.v, I (gotR (numT s i)).2.1, I (gotR (numT s i)).2.2]) [2] rfl (eok rfl) (by omega) rfl Tryz.call50 rfl rfl (eok rfl) (fun w M hX => number4_c s i w M hX.st.sat h0 h1 (by omega)) (fun _ => rfl) fun h _ => ?_
   exact xret hB rfl rfl (eok rfl) (by omega) rfl (eok rfl) fun w M hX => ⟨h, M, rfl, trivial, hX.st.done, fc 0 (hX.sl 2 rfl) Nd.cells_len fnil⟩
  rw [if_neg (fun h => by rcases h with h | h; exact hb4.1 h; unfold isFig at h; simp only [zb] at h; omega)] at hB
  refine xbr rfl (eok rfl) (by simp only [zb] <;> omega) (fun hb5 => ?_) (fun hb5 => ?_) <;> simp only [zb] at hb5
  ·rw [if_neg (by omega), if_pos hb5.2] at hB
   refine xcall rfl (eok rfl) (by omega) Tryz.call48 rfl rfl (eok rfl) (fun _ w M hX => bad4_c _ _ w) rfl ?_
   exact xret hB rfl rfl (eok rfl) (by omega) rfl (eok rfl) fun w M hX => GotC.er hM rfl hX.st.low
  refine xbr rfl (eok rfl) (by omega) (fun hb6 => ?_) (fun hb6 => ?_) <;> simp only [zb] at hb6
  ·rw [if_neg (by omega), if_neg (by omega), if_pos hb6] at hB
   refine xcallM (fun h : SlH => .ag [.sl 2 h.v, I (gotR (mapR listV (partsT s i [93] [] (itemsT f s d)))).2.1, I (gotR (mapR listV (partsT s i [93] [] (itemsT f s d)))).2.2]) [2] rfl (eok rfl) (by omega) rfl Tryz.call51 rfl rfl (eok rfl) (fun w M hX => list4_c s i d f w M hX.st.sat h0 hil hb (by omega) hf ih) (fun _ => rfl) fun h _ => ?_
   exact xret hB rfl rfl (eok rfl) (by omega) rfl (eok rfl) fun w M hX => ⟨h, M, rfl, trivial, hX.st.done, fc 0 (hX.sl 2 rfl) Nd.cells_len fnil⟩
  refine xbr rfl (eok rfl) (by omega) (fun hb7 => ?_) (fun hb7 => ?_) <;> simp only [zb] at hb7
  ·rw [if_neg (by omega), if_neg (by omega), if_neg hb6] at hB
   refine xcallM (fun h : SlH => .ag [.sl 2 h.v, I (gotR (mapR objV (partsT s i [125] [] (pairsT f s d)))).2.1, I (gotR (mapR objV (partsT s i [125] [] (pairsT f s d)))).2.2]) [2] rfl (eok rfl) (by omega) rfl Tryz.call52 rfl rfl (eok rfl) (fun w M hX => object4_c s i d f w M hX.st.sat h0 hil hb (by omega) hf ih) (fun _ => rfl) fun h _ => ?_
   exact xret hB rfl rfl (eok rfl) (by omega) rfl (eok rfl) fun w M hX => ⟨h, M, rfl, trivial, hX.st.done, fc 0 (hX.sl 2 rfl) Nd.cells_len fnil⟩
  rw [if_pos (by omega)] at hB
  refine xcall rfl (eok rfl) (by omega) Tryz.call48 rfl rfl (eok rfl) (fun _ w M hX => bad4_c _ _ w) rfl ?_
  exact xret hB rfl rfl (eok rfl) (by omega) rfl (eok rfl) fun w M hX => GotC.er hM rfl hX.st.low
theorem ref_all (s : Str) (hb : len s ≤ 200000) : ∀ f, RefOK s f := by
 intro f
 induction f using Nat.strongRecOn with
 | _ f ih =>
  cases f with
  | zero => intro i d w M hM h0 h1 hd0 hd1 hf; omega
  | succ f => intro i d w M hM h0 h1 hd0 hd1 hf; exact value4_c s i d f w M hM h0 h1 hb ⟨hd0, hd1⟩ (by omega) fun f2 h => ih f2 (by omega)
theorem parse4_c (s : Str) (w : World) (M : Mem) (hM : Sat w M) (hb : len s ≤ 200000) :
  Calls Tryz.prog 12 [str s].toArray w (MRet w M (fun v : Value => .tuple #[v, i64 (parseT s).2.1, i64 (parseT s).2.2]) (fun _ => True) fun v => [(0, kn v 6 (parseT s).1 Nd.cells)]) := by
 have hs0 := len_nonneg s
 have hbl := blankTo_bd s 0 (by omega) hs0
 refine xenter ttok Tryz.func12 rfl Tryz.ntmps12 [] [] [.v (str s)] rfl (St.start hM) fnil (fun B hB => ?_) rfl
 refine xcall rfl (eok rfl) (by omega) Tryz.call30 rfl rfl (eok rfl) (fun _ w M hX => sameE (blank_c s 0 w (by omega) (by omega) (by omega))) rfl ?_
 have hok := (val_ok (s := s) (2 * s.length + 2)).1 (blankTo s 0) 0 (by omega) hbl.2 (by omega) (by omega)
 have hcall : ∀ w M, Sat w M → Calls Tryz.prog 29 [str s, i64 (blankTo s 0), i64 0].toArray w (GotC w M (valT (2 * s.length + 2) s (blankTo s 0) 0)) := fun w M hM => ref_all s hb _ _ _ w M hM (by omega) hbl.2 (by omega) (by omega) (by unfold len at *; omega)
 unfold parseT at hB
 rcases hv : valT (2 * s.length + 2) s (blankTo s 0) 0 with ⟨x, j⟩ | ⟨e, p⟩
 ·rw [hv] at hok hB hcall
  obtain ⟨hgx, hl1, hl0, hl2⟩ := hok
  simp only at hB
  refine xcallM (fun h : SlH => .ag [.sl 2 h.v, I j, I 0]) [2] rfl (eok rfl) (by omega) rfl Tryz.call29 rfl rfl (eok rfl) (fun w M hX => hcall w M hX.st.sat) (fun _ => rfl) fun h _ => ?_
  refine xalloc 3 rfl (eok rfl) (by omega) Tryz.zeroValue59 rfl fun b3 => ?_
  refine xbr rfl (eok rfl) (by omega) (fun hc => absurd hc (by decide)) (fun _ => ?_)
  refine xcall rfl (eok rfl) (by omega) Tryz.call30 rfl rfl (eok rfl) (fun _ w M hX => sameE (blank_c s j w (by omega) (by omega) (by omega))) rfl ?_
  refine xbr rfl (eok rfl) (by omega) (fun hb2 => ?_) (fun hb2 => ?_) <;> simp only [zb] at hb2
  ·rw [if_pos hb2] at hB
   exact xret hB rfl rfl (eok rfl) (by omega) rfl (eok rfl) fun w M hX => ⟨.slice none 0 0, M, rfl, trivial, hX.st.done, fcons ⟨Sl.nil M 6, Nd.cells_len, trivial⟩ fnil⟩
  ·rw [if_neg hb2] at hB
   exact xret hB rfl rfl (eok rfl) (by omega) rfl (eok rfl) fun w M hX => ⟨h.v, M, rfl, trivial, hX.st.done, fc 0 (hX.sl 2 rfl) Nd.cells_len fnil⟩
 ·rw [hv] at hok hB hcall
  simp only at hB
  refine xcallM (fun h : SlH => .ag [.sl 2 h.v, I p, I e]) [2] rfl (eok rfl) (by omega) rfl Tryz.call29 rfl rfl (eok rfl) (fun w M hX => hcall w M hX.st.sat) (fun _ => rfl) fun h _ => ?_
  refine xalloc 3 rfl (eok rfl) (by omega) Tryz.zeroValue59 rfl fun b3 => ?_
  refine xbr rfl (eok rfl) (by omega) (fun _ => ?_) (fun hc => absurd hc (by simp only [zb]; exact hok.1))
  refine xdraw rfl (eok rfl) (by omega) tryz_mixed (by decide +kernel) (xqend rfl (eok rfl) (by omega) ?_)
  exact xret hB rfl rfl (eok rfl) (by omega) rfl (eok rfl) fun w M hX => ⟨.slice none 0 0, M, rfl, trivial, hX.st.done, fcons ⟨Sl.nil M 6, Nd.cells_len, trivial⟩ fnil⟩
end Go.Proofs.YtjfaikgooldcbaaGreatDoor
namespace Go.Eng
open Go.RowKit
theorem wpOpsS_of_wpList {P : Program} {ops : Array Oper} {Q : Exit → Act → List Frame → World → Prop} {cs : List Frame} (hq : ¬ LetsOut (fun e a w => Q e a cs w)) (l : List Oper) :
    ∀ (k : Nat), (∀ j, l[j]? = ops[k + j]?) → ∀ a w, wpList P ops (fun e a w => Q e a cs w) l a w → wpOpsS P ops Q (List.range' k l.length) a cs w := by
  induction l with
  | nil => intro k _ a w h; exact h
  | cons o l ih =>
    intro k hk a w h
    have h0 : ops[k]? = some o := by simpa using (hk 0).symm
    have ih' := ih (k + 1) (fun j => by have := hk (j + 1); simpa [Nat.add_assoc, Nat.add_comm 1 j] using this)
    simp only [List.length_cons, List.range'_succ, wpOpsS, h0]
    unfold wpList at h
    by_cases hw : Region.wanted o (yielded ops a.tmps) = true
    · rw [if_pos hw] at h ⊢
      have h1 := (h.resolve_right fun hh => hq hh.2)
      have h2 := Oper.wp_mono (fun a' w' hh => ih' a' w' hh) h1
      unfold Oper.wp at h2
      split
      · rename_i w' he; rw [he] at h2; exact h2.elim
      · exact h2
    · rw [if_neg hw] at h ⊢
      exact ih' _ _ h
/-- A region that begins with recover. -/
theorem wpS_recovers {P : Program} {Q : Exit → Act → List Frame → World → Prop} {cs cs' : List Frame} {id : Nat} {o0 : Oper} {l : List Oper} {a : Act} {w : World} {v : Value} (hg : o0.guard = none) (hrun : (execOp a.eval o0).run P w = .ok .recover w)
    (hrec : recoverD cs = some (v, cs') ∨ (recoverD cs = none ∧ v = .nilIface ∧ cs' = cs)) (hq : ¬ LetsOut (fun e a w => Q e a cs' w)) (h : wpList P (o0 :: l).toArray (fun e a w => Q e a cs' w) l (a.put o0.dst v) w) :
    (Code.region id (o0 :: l).toArray false).wpS P Q a cs w := by
  refine wpS_region ?_
  have hw : Region.wanted o0 (yielded (o0 :: l).toArray a.tmps) = true := by unfold Region.wanted; rw [hg]
  have h1 := wpOpsS_of_wpList (ops := (o0 :: l).toArray) hq l 1 (fun j => by simp [Nat.add_comm 1 j]) _ _ h
  rw [show List.range (o0 :: l).toArray.size = 0 :: List.range' 1 l.length from by simp [List.range_eq_range', List.range'_succ]]
  unfold wpOpsS
  rw [show (o0 :: l).toArray[0]? = some o0 from by simp]
  dsimp only
  rw [if_pos hw, hrun]
  dsimp only
  rcases hrec with hr | ⟨hr, rfl, rfl⟩
  · rw [hr]; exact h1
  · rw [hr]; exact h1
section
variable {P : Program} {C : World → Prop} {L : Env} {W : Bool} {d : Option Tmp} {ty : TypeId} {ps : String} {af : Array Edge} {gd : Option (Nat × Bool)}
theorem PV.asserts {xt t : TypeId} {x : Operand} {v : Value} {fs : Array Field} (hx : Opd L W x (.iface t v)) (ht : P.underlying t = some (.struct fs)) : PV P C L W ⟨d, .typeAssert x xt t true, ty, ps, af, gd⟩ (.tuple #[v, .bool true]) :=
  .un (f := fun u => Instr.typeAssert u xt t true) (fun _ => rfl) hx fun _ w _ => by
    simp only [Instr.typeAssert, Sem.run_bind, run_underlying ht, Result.andThen_ok]
    simp [Sem.run_pure]
theorem PV.assertsNo {xt t : TypeId} {x : Operand} {z : Value} {fs : Array Field} (hx : Opd L W x .nilIface) (ht : P.underlying t = some (.struct fs)) (hz : ∀ w, (zeroValue t).run P w = .ok z w) : PV P C L W ⟨d, .typeAssert x xt t true, ty, ps, af, gd⟩ (.tuple #[z, .bool false]) :=
  .un (f := fun u => Instr.typeAssert u xt t true) (fun _ => rfl) hx fun _ w _ => by
    simp only [Instr.typeAssert, Sem.run_bind, run_underlying ht, Result.andThen_ok]
    simp [Sem.run_bind, Sem.run_pure, hz]
end
/-- What recover finds in a frame of this mode, and how it leaves it. -/
def recMode : FrameMode → Value × FrameMode
  | .panicking ({ v, recovered := false, goexit := false } :: older) => (v, .panicking ({ v, recovered := true } :: older))
  | u => (.nilIface, u)
theorem recoverD_mode (c : Frame) (cs : List Frame) : recoverD (c :: cs) = some ((recMode c.mode).1, { c with mode := (recMode c.mode).2 } :: cs) ∨ (recoverD (c :: cs) = none ∧ (recMode c.mode).1 = .nilIface ∧ { c with mode := (recMode c.mode).2 } :: cs = c :: cs) := by
  obtain ⟨_, _, _, _, m, _, _⟩ := c
  cases m with
  | panicking ch =>
    cases ch with
    | nil => exact .inr ⟨rfl, rfl, rfl⟩
    | cons p older =>
      obtain ⟨v, r, g⟩ := p
      cases r <;> cases g <;> first | exact .inl rfl | exact .inr ⟨rfl, rfl, rfl⟩
  | _ => exact .inr ⟨rfl, rfl, rfl⟩
/-- A deferred closure without results, whose body begins with recover. -/
theorem enterS {P : Program} {f : FuncId} {fn : Func} {id d N : Nat} {o0 : Oper} {l : List Oper} {y : Code} {vs : List Value} {u : FrameMode} {w : World} {S : World → Prop} (hf : P.funcs[f]? = some fn) (hb : fn.body = some (.seq (.region id (o0 :: l).toArray false) y)) (hn : fn.ntmps = N) (hl : vs.length ≤ N)
    (hres : fn.results = #[]) (hg : o0.guard = none) (hd : o0.dst = some d) (hdN : Nat.blt d N = true) (hrun : ∀ (a : Act) w, (execOp a.eval o0).run P w = .ok .recover w)
    (h : ∀ (K : Act → World → Prop) (Q : Exit → Act → World → Prop), (∀ a w', y.wp P Q a w' → K a w') → (∀ a w', a.defers = [] → S w' → Q .normal a w') → RL P (o0 :: l).toArray (Exit.then K Q) N l ((d, true, (recMode u).1) :: envOf 0 vs) w) :
    CallsD P f vs.toArray u w (fun e u' w' => e = .returned (.tuple #[]) ∧ u' = (recMode u).2 ∧ S w') := by
  refine callsD_of_wpS hf hb fun c₀ cs hu => wpS_seq ?_
  subst hu
  have hs := Slots.enter vs N hl
  rw [← hn] at hs
  refine wpS_recovers hg (hrun _ _) (recoverD_mode c₀ cs) ?_ ?_
  · rintro ⟨a, w', h1⟩
    obtain ⟨u', h2, _⟩ := h1
    cases h2
  · subst hn
    have hput := hs.put hdN true (recMode c₀.mode).1
    rw [hd]
    have hh := h (fun a w' => y.wpS P (bodyPostS P fn c₀ cs (fun e u' w' => e = .returned (.tuple #[]) ∧ u' = (recMode c₀.mode).2 ∧ S w')) a ({ c₀ with mode := (recMode c₀.mode).2 } :: cs) w')
      (fun e a w' => bodyPostS P fn c₀ cs (fun e u' w' => e = .returned (.tuple #[]) ∧ u' = (recMode c₀.mode).2 ∧ S w') e a ({ c₀ with mode := (recMode c₀.mode).2 } :: cs) w')
      (fun a w' h1 => wpS_of_wp h1) (fun a w' h1 h2 => ⟨h1, _, rfl, _, results_none hres _ _ _, rfl, rfl, h2⟩) _ hput
    refine Eq.mp ?_ hh
    congr 1
    funext e a w'
    cases e <;> rfl
end Go.Eng
