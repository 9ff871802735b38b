import Derived.Test.YthdialbnlnjgpaaGreatDoorEngL
import Derived.Laws.BitsLemmas
import Derived.Test.YthdialbnlnjgpaaGreatDoorPure
import Derived.Test.YthdialbnlnjgpaaGreatDoorProg
import Derived.Test.YthdialbnlnjgpaaGreatDoorR5
set_option linter.unusedVariables false
set_option linter.unusedSimpArgs false
namespace Go.Proofs.YthdialbnlnjgpaaGreatDoor
open Go.Eng

/- loupe/louperef03.unit -/
set_option maxRecDepth 100000 in
theorem unit_c (s : Str) (i : Int) (w : World) (h0 : 0 ≤ i) (h1 : i ≤ len s) (hb : len s ≤ 1099511627776) :
  Calls Tryz.prog 150 [(str s), (i64 i)].toArray w fun e w' => e = .returned (i64 (numP (from' s i))) ∧ w' = w := by
 refine CW.enter Tryz.func150 rfl Tryz.ntmps150 (Nat.le_of_ble_eq_true rfl) ?_
 have := len_nonneg s
 refine CW.weaken [0, 1] (L' := [Y 0 (str s), Y 1 (i64 i)]) ?_ rfl
 refine CW.sr ?_
 refine RL.u (.assign .c) rfl ?_
 refine RL.nil (CW.at [Y 0 (str s), Y 1 (i64 i)] rfl ?_)
 refine CW.seq ?_
 refine CW.sr ?_
 refine RL.m rfl rfl (RL.u (.add (.t rfl) .c (fun _ => by first | omega | (unfold hexI at *; omega))) rfl (RL.m rfl rfl (RL.u (.lenS (.t rfl) Tryz.underlying9) rfl (RL.u (.gtr (.t rfl) (.t rfl)) rfl (RL.m rfl rfl ?_)))))
 refine RL.v (.neg rfl rfl) (.move (.t rfl)) rfl (RL.v (.neg rfl rfl) (.move (.t rfl)) rfl (RL.v (.neg rfl rfl) (.idxS (.g rfl (fun h => h)) (.g rfl (fun h => h)) Tryz.underlying9 (fun hW => by simp only [zb] at hW; first | omega | (unfold hexI at *; omega))) rfl (RL.v (.neg rfl rfl) (.neq (.g rfl (fun h => h)) .c) rfl (RL.u (.or (.t rfl) (.g rfl (fun h => h))) rfl (RL.m rfl rfl ?_)))))
 refine RL.v (.neg rfl rfl) (.move (.t rfl)) rfl (RL.v (.neg rfl rfl) (.move (.t rfl)) rfl (RL.v (.neg rfl rfl) (.add (.g rfl (fun h => h)) .c (fun hW => by simp only [zb] at hW; first | omega | (unfold hexI at *; omega))) rfl (RL.v (.neg rfl rfl) (.idxS (.g rfl (fun h => h)) (.g rfl (fun h => h)) Tryz.underlying9 (fun hW => by simp only [zb] at hW; first | omega | (unfold hexI at *; omega))) rfl (RL.v (.neg rfl rfl) (.neq (.g rfl (fun h => h)) .c) rfl (RL.u (.or (.t rfl) (.g rfl (fun h => h))) rfl ?_)))))
 refine RL.nil (CW.at [Y 0 (str s), Y 1 (i64 i), Y 25 (.bool (((decide ((len (s)) < ((i) + (6)))) || ((byteAt (s) (i)) != (92))) || ((byteAt (s) ((i) + (1))) != (117))))] rfl ?_)
 refine CW.cond rfl (fun hb1 => ?_) (fun hb1 => ?_)
 ·try simp only [zb] at hb1
  refine CW.sr ?_
  refine RL.u (.assign .c) rfl ?_
  refine RL.nil (CW.at [Y 4 (i64 (-1))] rfl ?_)
  refine CW.ret (ret1 (P := Tryz.prog) (fn := Tryz.f150) (R := fun e w' => e = .returned (i64 (numP (from' s i))) ∧ w' = w) rfl rfl ?_)
  exact ⟨by rw [numP_not h0 (by omega)], rfl⟩
 ·try simp only [zb] at hb1
  have hn1 : i + 6 ≤ len s ∧ byteAt s i = 92 ∧ byteAt s (i + 1) = 117 := by omega
  have hne := (sub_eq_nil (s := s) (i := i + 2) (j := i + 2) (by omega) (Int.le_refl _) (by omega)).2 rfl
  refine CW.skip (CW.at [Y 0 (str s), Y 1 (i64 i)] rfl ?_)
  refine CW.sr ?_
  refine RL.u (.assign .c) rfl ?_
  refine RL.nil (CW.at [Y 0 (str s), Y 1 (i64 i), Y 5 (i64 0)] rfl ?_)
  refine CW.seq ?_
  refine CW.sr ?_
  refine RL.m rfl rfl (RL.u (.add (.t rfl) .c (fun _ => by first | omega | (unfold hexI at *; omega))) rfl (RL.a rfl rfl ?_))
  refine RL.nil (CW.at [Y 0 (str s), Y 1 (i64 i), Y 5 (i64 0), Y 6 (i64 ((i) + (2)))] rfl ?_)
  refine CW.block ?_
  refine CW.loop (σ := Int × Int) (fun (n, k) => [Y 0 (str s), Y 1 (i64 i), Y 5 (i64 n), Y 6 (i64 k)]) (fun (n, k) wl => w = wl ∧ i + 2 ≤ k ∧ k ≤ i + 6 ∧ hexOk (Eng.sub s (i + 2) k) = true ∧ n = hexVal (Eng.sub s (i + 2) k)) (fun (n, k) => (i + 6 - k).toNat) ((0, i + 2)) [0, 1, 5, 6] rfl ?_ ?_
  ·exact ⟨rfl, by omega, by omega, by rw [hne]; rfl, by rw [hne]; rfl⟩
  ·rintro ⟨n, k⟩ wl ⟨rfl, hk0, hk1, hok, hn⟩
   have hby := byteAt_bd s k
   have hsl := sub_len (s := s) (i := i + 2) (j := k) (by omega) hk0 (by omega)
   have hnb := hexVal_bd4 hok (by omega)
   rw [← hn] at hnb
   refine CW.seq ?_
   refine CW.sr ?_
   refine RL.m rfl rfl (RL.m rfl rfl (RL.u (.add (.t rfl) .c (fun _ => by first | omega | (unfold hexI at *; omega))) rfl (RL.u (.lss (.t rfl) (.t rfl)) rfl ?_)))
   refine RL.nil (CW.at [Y 0 (str s), Y 1 (i64 i), Y 5 (i64 n), Y 6 (i64 k), Y 31 (.bool (decide ((k) < ((i) + (6)))))] rfl ?_)
   refine CW.cond rfl (fun hb2 => ?_) (fun hb2 => ?_)
   ·try simp only [zb] at hb2
    refine CW.skip (CW.at [Y 0 (str s), Y 1 (i64 i), Y 5 (i64 n), Y 6 (i64 k)] rfl ?_)
    refine CW.seq ?_
    refine CW.block ?_
    refine CW.sr ?_
    refine RL.m rfl rfl (RL.m rfl rfl (RL.u (.idxS (.t rfl) (.t rfl) Tryz.underlying9 (fun _ => by first | omega | (unfold hexI at *; omega))) rfl (RL.u (.cvtK (r := byteAt (s) (k)) (.t rfl) Tryz.underlying5 Tryz.underlying3 (fun _ => by exact Eng.wrap_i64 (by omega))) rfl (RL.a rfl rfl ?_))))
    refine RL.nil (CW.at [Y 0 (str s), Y 1 (i64 i), Y 5 (i64 n), Y 6 (i64 k), Y 7 (i64 (byteAt (s) (k)))] rfl ?_)
    refine CW.block ?_
    refine CW.sr ?_
    refine RL.m rfl rfl (RL.u (.geq (.t rfl) .c) rfl (RL.m rfl rfl (RL.v (.pos rfl rfl) (.move (.t rfl)) rfl (RL.v (.pos rfl rfl) (.leq (.g rfl (fun h => h)) .c) rfl (RL.u (.and (.t rfl) (.g rfl (fun h => h))) rfl ?_)))))
    refine RL.a rfl rfl ?_
    refine RL.nil (CW.at [Y 0 (str s), Y 1 (i64 i), Y 5 (i64 n), Y 6 (i64 k), Y 7 (i64 (byteAt (s) (k))), Y 38 (.bool ((decide ((48) ≤ (byteAt (s) (k)))) && (decide ((byteAt (s) (k)) ≤ (57)))))] rfl ?_)
    refine CW.cond rfl (fun hb3 => ?_) (fun hb3 => ?_)
    ·try simp only [zb] at hb3
     refine CW.region ?_
     refine RL.m rfl rfl (RL.u (.mul (.t rfl) .c (fun _ => by first | omega | (unfold hexI at *; omega))) rfl (RL.m rfl rfl (RL.u (.add (.t rfl) (.t rfl) (fun _ => by first | omega | (unfold hexI at *; omega))) rfl (RL.u (.sub (.t rfl) .c (fun _ => by first | omega | (unfold hexI at *; omega))) rfl (RL.a rfl rfl ?_)))))
     refine RL.nil (CW.at [Y 0 (str s), Y 1 (i64 i), Y 5 (i64 ((((n) * (16)) + (byteAt (s) (k))) - (48))), Y 6 (i64 k)] rfl ?_)
     refine CW.region ?_
     refine RL.m rfl rfl (RL.u (.add (.t rfl) .c (fun _ => by first | omega | (unfold hexI at *; omega))) rfl (RL.a rfl rfl ?_))
     refine RL.nil fun a hs => Exists.intro (((((n) * (16)) + (byteAt (s) (k))) - (48), k + 1)) ⟨hs.keep [0, 1, 5, 6], ?_, ?_⟩
     ·have hx : hexI (byteAt s k) = byteAt s k - 48 := by unfold hexI; (repeat' split) <;> omega
      have hst := hex_step (s := s) (i := i + 2) (k := k) (by omega) hk0 (by omega) hok (by rw [hx]; omega)
      exact ⟨rfl, by omega, by omega, hst.1, by rw [hst.2, hx, ← hn]; omega⟩
     ·show Int.toNat _ < Int.toNat _; omega
    ·try simp only [zb] at hb3
     refine CW.sr ?_
     refine RL.m rfl rfl (RL.u (.geq (.t rfl) .c) rfl (RL.m rfl rfl (RL.v (.pos rfl rfl) (.move (.t rfl)) rfl (RL.v (.pos rfl rfl) (.leq (.g rfl (fun h => h)) .c) rfl (RL.u (.and (.t rfl) (.g rfl (fun h => h))) rfl ?_)))))
     refine RL.a rfl rfl ?_
     refine RL.nil (CW.at [Y 0 (str s), Y 1 (i64 i), Y 5 (i64 n), Y 6 (i64 k), Y 7 (i64 (byteAt (s) (k))), Y 50 (.bool ((decide ((97) ≤ (byteAt (s) (k)))) && (decide ((byteAt (s) (k)) ≤ (102)))))] rfl ?_)
     refine CW.cond rfl (fun hb4 => ?_) (fun hb4 => ?_)
     ·try simp only [zb] at hb4
      refine CW.region ?_
      refine RL.m rfl rfl (RL.u (.mul (.t rfl) .c (fun _ => by first | omega | (unfold hexI at *; omega))) rfl (RL.m rfl rfl (RL.u (.add (.t rfl) (.t rfl) (fun _ => by first | omega | (unfold hexI at *; omega))) rfl (RL.u (.sub (.t rfl) .c (fun _ => by first | omega | (unfold hexI at *; omega))) rfl (RL.u (.add (.t rfl) .c (fun _ => by first | omega | (unfold hexI at *; omega))) rfl ?_)))))
      refine RL.a rfl rfl ?_
      refine RL.nil (CW.at [Y 0 (str s), Y 1 (i64 i), Y 5 (i64 (((((n) * (16)) + (byteAt (s) (k))) - (97)) + (10))), Y 6 (i64 k)] rfl ?_)
      refine CW.region ?_
      refine RL.m rfl rfl (RL.u (.add (.t rfl) .c (fun _ => by first | omega | (unfold hexI at *; omega))) rfl (RL.a rfl rfl ?_))
      refine RL.nil fun a hs => Exists.intro ((((((n) * (16)) + (byteAt (s) (k))) - (97)) + (10), k + 1)) ⟨hs.keep [0, 1, 5, 6], ?_, ?_⟩
      ·have hx : hexI (byteAt s k) = byteAt s k - 87 := by unfold hexI; (repeat' split) <;> omega
       have hst := hex_step (s := s) (i := i + 2) (k := k) (by omega) hk0 (by omega) hok (by rw [hx]; omega)
       exact ⟨rfl, by omega, by omega, hst.1, by rw [hst.2, hx, ← hn]; omega⟩
      ·show Int.toNat _ < Int.toNat _; omega
     ·try simp only [zb] at hb4
      refine CW.sr ?_
      refine RL.m rfl rfl (RL.u (.geq (.t rfl) .c) rfl (RL.m rfl rfl (RL.v (.pos rfl rfl) (.move (.t rfl)) rfl (RL.v (.pos rfl rfl) (.leq (.g rfl (fun h => h)) .c) rfl (RL.u (.and (.t rfl) (.g rfl (fun h => h))) rfl ?_)))))
      refine RL.a rfl rfl ?_
      refine RL.nil (CW.at [Y 0 (str s), Y 1 (i64 i), Y 5 (i64 n), Y 6 (i64 k), Y 7 (i64 (byteAt (s) (k))), Y 63 (.bool ((decide ((65) ≤ (byteAt (s) (k)))) && (decide ((byteAt (s) (k)) ≤ (70)))))] rfl ?_)
      refine CW.cond rfl (fun hb5 => ?_) (fun hb5 => ?_)
      ·try simp only [zb] at hb5
       refine CW.region ?_
       refine RL.m rfl rfl (RL.u (.mul (.t rfl) .c (fun _ => by first | omega | (unfold hexI at *; omega))) rfl (RL.m rfl rfl (RL.u (.add (.t rfl) (.t rfl) (fun _ => by first | omega | (unfold hexI at *; omega))) rfl (RL.u (.sub (.t rfl) .c (fun _ => by first | omega | (unfold hexI at *; omega))) rfl (RL.u (.add (.t rfl) .c (fun _ => by first | omega | (unfold hexI at *; omega))) rfl ?_)))))
       refine RL.a rfl rfl ?_
       refine RL.nil (CW.at [Y 0 (str s), Y 1 (i64 i), Y 5 (i64 (((((n) * (16)) + (byteAt (s) (k))) - (65)) + (10))), Y 6 (i64 k)] rfl ?_)
       refine CW.region ?_
       refine RL.m rfl rfl (RL.u (.add (.t rfl) .c (fun _ => by first | omega | (unfold hexI at *; omega))) rfl (RL.a rfl rfl ?_))
       refine RL.nil fun a hs => Exists.intro ((((((n) * (16)) + (byteAt (s) (k))) - (65)) + (10), k + 1)) ⟨hs.keep [0, 1, 5, 6], ?_, ?_⟩
       ·have hx : hexI (byteAt s k) = byteAt s k - 55 := by unfold hexI; (repeat' split) <;> omega
        have hst := hex_step (s := s) (i := i + 2) (k := k) (by omega) hk0 (by omega) hok (by rw [hx]; omega)
        exact ⟨rfl, by omega, by omega, hst.1, by rw [hst.2, hx, ← hn]; omega⟩
       ·show Int.toNat _ < Int.toNat _; omega
      ·try simp only [zb] at hb5
       refine CW.sr ?_
       refine RL.u (.assign .c) rfl ?_
       refine RL.nil (CW.at [Y 4 (i64 (-1))] rfl ?_)
       refine CW.ret (ret1 (P := Tryz.prog) (fn := Tryz.f150) (R := fun e w' => e = .returned (i64 (numP (from' s i))) ∧ w' = w) rfl rfl ?_)
       have hx : hexI (byteAt s k) < 0 := by unfold hexI; (repeat' split) <;> omega
       exact ⟨by rw [numP_at h0 hn1.1 hn1.2.1 hn1.2.2, hex_bad (s := s) (i := i + 2) (k := k) (j := i + 6) (by omega) hk0 (by omega) hn1.1 hx]; rfl, rfl⟩
   ·try simp only [zb] at hb2
    refine CW.exit (CW.at [Y 5 (i64 n)] rfl ?_)
    refine CW.sr ?_
    refine RL.m rfl rfl (RL.a rfl rfl ?_)
    refine RL.nil (CW.at [Y 4 (i64 n)] rfl ?_)
    refine CW.ret (ret1 (P := Tryz.prog) (fn := Tryz.f150) (R := fun e w' => e = .returned (i64 (numP (from' s i))) ∧ w' = w) rfl rfl ?_)
    have hk : k = i + 6 := by omega
    subst hk
    exact ⟨by rw [numP_at h0 hn1.1 hn1.2.1 hn1.2.2, if_pos hok, hn], rfl⟩

/- loupe/louperef03.escape -/
set_option maxRecDepth 100000 in
theorem escape3_c (s : Str) (i : Int) (w : World) (h0 : 0 ≤ i) (h1 : i < len s) (hb : len s ≤ 1099511627776) :
  Calls Tryz.prog 131 [(str s), (i64 i)].toArray w fun e w' => e = .returned (.tuple #[(str ((escS (escP (from' s i))).1)), (i64 ((escS (escP (from' s i))).2))]) ∧ Ext w w' := by
 refine CW.enter Tryz.func131 rfl Tryz.ntmps131 (Nat.le_of_ble_eq_true rfl) ?_
 have := len_nonneg s
 have hl := from_len s i h0 (by omega)
 have hb1' := byteAt_from s i 1 h0 (by omega)
 have hu := numP_bd (from' s i)
 have hu2 := numP_bd (from' s (i + 6))
 have hff := from_from s i 6 h0 (by omega)
 have h8 : len ([34, 92, 47, 98, 102, 110, 114, 116] : Str) = 8 := rfl
 have h82 : len ([34, 92, 47, 8, 12, 10, 13, 9] : Str) = 8 := rfl
 have hS : St w (fun _ _ => none) w (fun _ _ => none) [] := St.start ⟨fun _ _ _ h => by cases h⟩
 refine CW.weaken [0, 1] (L' := [Y 0 (str s), Y 1 (i64 i)]) ?_ rfl
 refine CW.sr ?_
 refine RL.u (.assign .c) rfl (RL.u (.assign .c) rfl ?_)
 refine RL.nil (CW.at [Y 0 (str s), Y 1 (i64 i)] rfl ?_)
 refine CW.seq ?_
 refine CW.sr ?_
 refine RL.m rfl rfl (RL.u (.add (.t rfl) .c (fun _ => by omega)) rfl (RL.m rfl rfl (RL.u (.lenS (.t rfl) Tryz.underlying9) rfl (RL.u (.geq (.t rfl) (.t rfl)) rfl ?_))))
 refine RL.nil (CW.at [Y 0 (str s), Y 1 (i64 i), Y 15 (.bool (decide ((len (s)) ≤ ((i) + (1)))))] rfl ?_)
 refine CW.cond rfl (fun hb1 => ?_) (fun hb1 => ?_)
 ·try simp only [zb] at hb1
  refine CW.sr ?_
  refine RL.u (.assign .c) rfl (RL.u (.assign .c) rfl ?_)
  refine RL.nil (CW.at [Y 4 (str []), Y 5 (i64 0)] rfl ?_)
  refine CW.ret (ret2 (P := Tryz.prog) (fn := Tryz.f131) (R := fun e w' => e = .returned (.tuple #[(str ((escS (escP (from' s i))).1)), (i64 ((escS (escP (from' s i))).2))]) ∧ Ext w w') rfl rfl rfl ?_)
  have hE : escP (from' s i) = (0, 0) := by
   unfold escP
   try rw [hff]
   rw [if_pos (by first | assumption | omega | (simp_all; done) | grind)]
   try (first | rfl | (congr 1; omega))
  have hq : escS (escP (from' s i)) = ([], 0) := by rw [hE]; rfl
  rw [hq]; exact ⟨rfl, hS.low⟩
 ·try simp only [zb] at hb1
  refine CW.skip (CW.at [Y 0 (str s), Y 1 (i64 i)] rfl ?_)
  refine CW.sr ?_
  refine RL.u (.assign .c) rfl ?_
  refine RL.nil (CW.at [Y 0 (str s), Y 1 (i64 i), Y 6 (str ([34, 92, 47, 98, 102, 110, 114, 116]))] rfl ?_)
  refine CW.sr ?_
  refine RL.u (.assign .c) rfl ?_
  refine RL.nil (CW.at [Y 0 (str s), Y 1 (i64 i), Y 6 (str ([34, 92, 47, 98, 102, 110, 114, 116])), Y 7 (str ([34, 92, 47, 8, 12, 10, 13, 9]))] rfl ?_)
  refine CW.seq ?_
  refine CW.sr ?_
  refine RL.u (.assign .c) rfl ?_
  refine RL.nil (CW.at [Y 0 (str s), Y 1 (i64 i), Y 6 (str ([34, 92, 47, 98, 102, 110, 114, 116])), Y 7 (str ([34, 92, 47, 8, 12, 10, 13, 9])), Y 8 (i64 0)] rfl ?_)
  refine CW.block ?_
  refine CW.loop (σ := Int) (fun k => [Y 0 (str s), Y 1 (i64 i), Y 6 (str ([34, 92, 47, 98, 102, 110, 114, 116])), Y 7 (str ([34, 92, 47, 8, 12, 10, 13, 9])), Y 8 (i64 k)]) (fun k wl => St w (fun _ _ => none) wl (fun _ _ => none) [] ∧ 0 ≤ k ∧ k ≤ 8 ∧ NotEsc (byteAt s (i + 1)) k) (fun k => (8 - k).toNat) (0) [0, 1, 6, 7, 8] rfl ?_ ?_
  ·refine ⟨hS, ?_⟩; exact ⟨by omega, by omega, fun j h2 h3 => by omega⟩
  ·rintro k wl ⟨hS1, hk0, hk1, hN⟩
   refine CW.seq ?_
   refine CW.sr ?_
   refine RL.m rfl rfl (RL.m rfl rfl (RL.u (.lenS (.t rfl) Tryz.underlying9) rfl (RL.u (.lss (.t rfl) (.t rfl)) rfl ?_)))
   refine RL.nil (CW.at [Y 0 (str s), Y 1 (i64 i), Y 6 (str ([34, 92, 47, 98, 102, 110, 114, 116])), Y 7 (str ([34, 92, 47, 8, 12, 10, 13, 9])), Y 8 (i64 k), Y 19 (.bool (decide ((k) < (len ([34, 92, 47, 98, 102, 110, 114, 116])))))] rfl ?_)
   refine CW.cond rfl (fun hb2 => ?_) (fun hb2 => ?_)
   ·try simp only [zb] at hb2
    refine CW.skip (CW.at [Y 0 (str s), Y 1 (i64 i), Y 6 (str ([34, 92, 47, 98, 102, 110, 114, 116])), Y 7 (str ([34, 92, 47, 8, 12, 10, 13, 9])), Y 8 (i64 k)] rfl ?_)
    refine CW.seq ?_
    refine CW.block ?_
    refine CW.seq ?_
    refine CW.regionD hS1 tryz_mixed (by decide +kernel) ?_
    refine RQ.v .none (.move (.t rfl)) rfl ?_
    refine RQ.v .none (.move (.t rfl)) rfl ?_
    refine RQ.v .none (.add (.t rfl) .c (fun _ => by omega)) rfl ?_
    refine RQ.v .none (.idxS (.t rfl) (.t rfl) Tryz.underlying9 (fun _ => by omega)) rfl ?_
    refine RQ.v .none (.move (.t rfl)) rfl ?_
    refine RQ.v .none (.move (.t rfl)) rfl ?_
    refine RQ.v .none (.idxS (.t rfl) (.t rfl) Tryz.underlying9 (fun _ => by omega)) rfl ?_
    refine RQ.v .none (.eql (.t rfl) (.t rfl)) rfl ?_
    refine RQ.nil (fun a hs w2 hS3 => CW.at [Y 0 (str s), Y 1 (i64 i), Y 6 (str ([34, 92, 47, 98, 102, 110, 114, 116])), Y 7 (str ([34, 92, 47, 8, 12, 10, 13, 9])), Y 8 (i64 k), Y 29 (.bool ((byteAt (s) ((i) + (1))) == (byteAt ([34, 92, 47, 98, 102, 110, 114, 116]) (k))))] rfl ?_ a hs)
    refine CW.cond rfl (fun hb3 => ?_) (fun hb3 => ?_)
    ·try simp only [zb] at hb3
     refine CW.sr ?_
     refine RL.m rfl rfl (RL.m rfl rfl (RL.m rfl rfl (RL.u (.add (.t rfl) .c (fun _ => by omega)) rfl (RL.u (.slS (.t rfl) (.t rfl) (.t rfl) Tryz.underlying9 (fun _ => by omega)) rfl (RL.a rfl rfl ?_)))))
     refine RL.u (.assign .c) rfl ?_
     refine RL.nil (CW.at [Y 4 (str (Eng.sub ([34, 92, 47, 8, 12, 10, 13, 9]) (k) ((k) + (1)))), Y 5 (i64 2)] rfl ?_)
     refine CW.ret (ret2 (P := Tryz.prog) (fn := Tryz.f131) (R := fun e w' => e = .returned (.tuple #[(str ((escS (escP (from' s i))).1)), (i64 ((escS (escP (from' s i))).2))]) ∧ Ext w w') rfl rfl rfl ?_)
     have he := esc_at (c := byteAt s (i + 1)) hk0 (by omega) hb3
     have hq : escS (escP (from' s i)) = (Eng.sub escTo k (k + 1), 2) := by rw [escS_short (by omega) (by rw [hb1']; exact he.1), hb1', he.2]
     rw [hq]; exact ⟨rfl, hS3.low⟩
    ·try simp only [zb] at hb3
     refine CW.skip (CW.at [Y 0 (str s), Y 1 (i64 i), Y 6 (str ([34, 92, 47, 98, 102, 110, 114, 116])), Y 7 (str ([34, 92, 47, 8, 12, 10, 13, 9])), Y 8 (i64 k)] rfl ?_)
     refine CW.region ?_
     refine RL.m rfl rfl (RL.u (.add (.t rfl) .c (fun _ => by omega)) rfl (RL.a rfl rfl ?_))
     refine RL.nil fun a hs => Exists.intro (k + 1) ⟨hs.keep [0, 1, 6, 7, 8], ?_, ?_⟩
     ·refine ⟨hS3, ?_⟩
      exact ⟨by omega, by omega, hN.step hb3⟩
     ·show Int.toNat _ < Int.toNat _; omega
   ·try simp only [zb] at hb2
    have hsh : shIs (byteAt (from' s i) 1) = false := by rw [hb1']; exact hN.end' (by omega)
    refine CW.exit (CW.at [Y 0 (str s), Y 1 (i64 i)] rfl ?_)
    refine CW.sr ?_
    refine RL.m rfl rfl (RL.m rfl rfl ?_)
    refine RL.callS .none Tryz.call150 (.cons (.t rfl) (.cons (.t rfl) .nil)) (fun _ => (unit_c (s) (i) _ (by omega) (by omega) (by omega))) rfl ?_
    refine RL.a rfl rfl ?_
    refine RL.nil (CW.at [Y 0 (str s), Y 1 (i64 i), Y 9 (i64 (numP (from' (s) (i))))] rfl ?_)
    refine CW.seq ?_
    refine CW.sr ?_
    refine RL.m rfl rfl (RL.u (.lss (.t rfl) .c) rfl (RL.m rfl rfl (RL.v (.neg rfl rfl) (.move (.t rfl)) rfl (RL.v (.neg rfl rfl) (.geq (.g rfl (fun h => h)) .c) rfl (RL.v (.neg rfl rfl) (.move (.g rfl (fun h => h))) rfl ?_)))))
    refine RL.v (.posG rfl rfl) (.move (.t rfl)) rfl (RL.v (.posG rfl rfl) (.lss (.g rfl (fun h => h)) .c) rfl (RL.v (.neg rfl rfl) (.and (.g rfl (fun h => h)) (.g rfl (fun h => h))) rfl (RL.u (.or (.t rfl) (.g rfl (fun h => h))) rfl ?_)))
    refine RL.nil (CW.at [Y 0 (str s), Y 1 (i64 i), Y 9 (i64 (numP (from' (s) (i)))), Y 47 (.bool ((decide ((numP (from' (s) (i))) < (0))) || ((decide ((56320) ≤ (numP (from' (s) (i))))) && (decide ((numP (from' (s) (i))) < (57344))))))] rfl ?_)
    refine CW.cond rfl (fun hb4 => ?_) (fun hb4 => ?_)
    ·try simp only [zb] at hb4
     refine CW.sr ?_
     refine RL.u (.assign .c) rfl (RL.u (.assign .c) rfl ?_)
     refine RL.nil (CW.at [Y 4 (str []), Y 5 (i64 0)] rfl ?_)
     refine CW.ret (ret2 (P := Tryz.prog) (fn := Tryz.f131) (R := fun e w' => e = .returned (.tuple #[(str ((escS (escP (from' s i))).1)), (i64 ((escS (escP (from' s i))).2))]) ∧ Ext w w') rfl rfl rfl ?_)
     have hE : escP (from' s i) = (0, 0) := by
      unfold escP
      try rw [hff]
      rw [if_neg (by first | assumption | omega | (simp_all; done) | grind), if_neg (by rw [hsh]; simp), if_pos (by first | assumption | omega | (simp_all; done) | grind)]
      try (first | rfl | (congr 1; omega))
     have hq : escS (escP (from' s i)) = ([], 0) := by rw [hE]; rfl
     rw [hq]; exact ⟨rfl, hS1.low⟩
    ·try simp only [zb] at hb4
     refine CW.skip (CW.at [Y 0 (str s), Y 1 (i64 i), Y 9 (i64 (numP (from' (s) (i))))] rfl ?_)
     refine CW.seq ?_
     refine CW.sr ?_
     refine RL.m rfl rfl (RL.u (.lss (.t rfl) .c) rfl (RL.m rfl rfl (RL.v (.neg rfl rfl) (.move (.t rfl)) rfl (RL.v (.neg rfl rfl) (.geq (.g rfl (fun h => h)) .c) rfl (RL.u (.or (.t rfl) (.g rfl (fun h => h))) rfl ?_)))))
     refine RL.nil (CW.at [Y 0 (str s), Y 1 (i64 i), Y 9 (i64 (numP (from' (s) (i)))), Y 53 (.bool ((decide ((numP (from' (s) (i))) < (55296))) || (decide ((57344) ≤ (numP (from' (s) (i)))))))] rfl ?_)
     refine CW.cond rfl (fun hb5 => ?_) (fun hb5 => ?_)
     ·try simp only [zb] at hb5
      refine CW.sr ?_
      refine RL.m rfl rfl ?_
      refine RL.callE hS1 .none Tryz.call151 (.cons (.t rfl) .nil) (fun _ => (utf3_c (numP (from' (s) (i))) _ (by omega) (by omega))) rfl (fun w4 hS5 => ?_)
      refine RL.a rfl rfl (RL.u (.assign .c) rfl ?_)
      refine RL.nil (CW.at [Y 4 (str (toStr (Lib.encodeRuneZ (numP (from' (s) (i)))))), Y 5 (i64 6)] rfl ?_)
      refine CW.ret (ret2 (P := Tryz.prog) (fn := Tryz.f131) (R := fun e w' => e = .returned (.tuple #[(str ((escS (escP (from' s i))).1)), (i64 ((escS (escP (from' s i))).2))]) ∧ Ext w w') rfl rfl rfl ?_)
      have hE : escP (from' s i) = (numP (from' s i), 6) := by
       unfold escP
       try rw [hff]
       rw [if_neg (by first | assumption | omega | (simp_all; done) | grind), if_neg (by rw [hsh]; simp), if_neg (by first | assumption | omega | (simp_all; done) | grind), if_pos (by first | assumption | omega | (simp_all; done) | grind)]
       try (first | rfl | (congr 1; omega))
      have hq : escS (escP (from' s i)) = (toStr (Lib.encodeRuneZ (numP (from' (s) (i)))), 6) := by rw [hE]; rfl
      rw [hq]; exact ⟨rfl, hS5.low⟩
     ·try simp only [zb] at hb5
      refine CW.skip (CW.at [Y 0 (str s), Y 1 (i64 i), Y 9 (i64 (numP (from' (s) (i))))] rfl ?_)
      refine CW.sr ?_
      refine RL.m rfl rfl (RL.m rfl rfl (RL.u (.add (.t rfl) .c (fun _ => by omega)) rfl ?_))
      refine RL.callS .none Tryz.call150 (.cons (.t rfl) (.cons (.t rfl) .nil)) (fun _ => (unit_c (s) ((i) + (6)) _ (by omega) (by omega) (by omega))) rfl ?_
      refine RL.a rfl rfl ?_
      refine RL.nil (CW.at [Y 9 (i64 (numP (from' (s) (i)))), Y 10 (i64 (numP (from' (s) ((i) + (6)))))] rfl ?_)
      refine CW.seq ?_
      refine CW.sr ?_
      refine RL.m rfl rfl (RL.u (.lss (.t rfl) .c) rfl (RL.m rfl rfl (RL.v (.neg rfl rfl) (.move (.t rfl)) rfl (RL.v (.neg rfl rfl) (.geq (.g rfl (fun h => h)) .c) rfl (RL.u (.or (.t rfl) (.g rfl (fun h => h))) rfl ?_)))))
      refine RL.nil (CW.at [Y 9 (i64 (numP (from' (s) (i)))), Y 10 (i64 (numP (from' (s) ((i) + (6))))), Y 65 (.bool ((decide ((numP (from' (s) ((i) + (6)))) < (56320))) || (decide ((57344) ≤ (numP (from' (s) ((i) + (6))))))))] rfl ?_)
      refine CW.cond rfl (fun hb6 => ?_) (fun hb6 => ?_)
      ·try simp only [zb] at hb6
       refine CW.sr ?_
       refine RL.u (.assign .c) rfl (RL.u (.assign .c) rfl ?_)
       refine RL.nil (CW.at [Y 4 (str []), Y 5 (i64 0)] rfl ?_)
       refine CW.ret (ret2 (P := Tryz.prog) (fn := Tryz.f131) (R := fun e w' => e = .returned (.tuple #[(str ((escS (escP (from' s i))).1)), (i64 ((escS (escP (from' s i))).2))]) ∧ Ext w w') rfl rfl rfl ?_)
       have hE : escP (from' s i) = (0, 0) := by
        unfold escP
        try rw [hff]
        rw [if_neg (by first | assumption | omega | (simp_all; done) | grind), if_neg (by rw [hsh]; simp), if_neg (by first | assumption | omega | (simp_all; done) | grind), if_neg (by first | assumption | omega | (simp_all; done) | grind), if_pos (by first | assumption | omega | (simp_all; done) | grind)]
        try (first | rfl | (congr 1; omega))
       have hq : escS (escP (from' s i)) = ([], 0) := by rw [hE]; rfl
       rw [hq]; exact ⟨rfl, hS1.low⟩
      ·try simp only [zb] at hb6
       refine CW.skip (CW.at [Y 9 (i64 (numP (from' (s) (i)))), Y 10 (i64 (numP (from' (s) ((i) + (6)))))] rfl ?_)
       refine CW.sr ?_
       refine RL.m rfl rfl (RL.u (.sub (.t rfl) .c (fun _ => by omega)) rfl (RL.u (.mul .c (.t rfl) (fun _ => by omega)) rfl (RL.u (.add .c (.t rfl) (fun _ => by omega)) rfl (RL.m rfl rfl (RL.u (.add (.t rfl) (.t rfl) (fun _ => by omega)) rfl ?_)))))
       refine RL.u (.sub (.t rfl) .c (fun _ => by omega)) rfl ?_
       refine RL.callE hS1 .none Tryz.call151 (.cons (.t rfl) .nil) (fun _ => (utf3_c ((((65536) + ((1024) * ((numP (from' (s) (i))) - (55296)))) + (numP (from' (s) ((i) + (6))))) - (56320)) _ (by omega) (by omega))) rfl (fun w6 hS7 => ?_)
       refine RL.a rfl rfl (RL.u (.assign .c) rfl ?_)
       refine RL.nil (CW.at [Y 4 (str (toStr (Lib.encodeRuneZ ((((65536) + ((1024) * ((numP (from' (s) (i))) - (55296)))) + (numP (from' (s) ((i) + (6))))) - (56320))))), Y 5 (i64 12)] rfl ?_)
       refine CW.ret (ret2 (P := Tryz.prog) (fn := Tryz.f131) (R := fun e w' => e = .returned (.tuple #[(str ((escS (escP (from' s i))).1)), (i64 ((escS (escP (from' s i))).2))]) ∧ Ext w w') rfl rfl rfl ?_)
       have hE : escP (from' s i) = (65536 + 1024 * (numP (from' s i) - 55296) + numP (from' s (i + 6)) - 56320, 12) := by
        unfold escP
        try rw [hff]
        rw [if_neg (by first | assumption | omega | (simp_all; done) | grind), if_neg (by rw [hsh]; simp), if_neg (by first | assumption | omega | (simp_all; done) | grind), if_neg (by first | assumption | omega | (simp_all; done) | grind), if_neg (by first | assumption | omega | (simp_all; done) | grind)]
        try (first | rfl | (congr 1; omega))
       have hq : escS (escP (from' s i)) = (toStr (Lib.encodeRuneZ ((((65536) + ((1024) * ((numP (from' (s) (i))) - (55296)))) + (numP (from' (s) ((i) + (6))))) - (56320))), 12) := by rw [hE]; rfl
       rw [hq]; exact ⟨rfl, hS7.low⟩

/- loupe/louperef03.taken -/
set_option maxRecDepth 100000 in
theorem taken_c (s : Str) (i : Int) (w : World) (h0 : 0 ≤ i) (h1 : i < len s) (hb : len s ≤ 1099511627776) :
  Calls Tryz.prog 95 [(str s), (i64 i)].toArray w fun e w' => e = .returned (.tuple #[(str ((takenR s i).1)), (i64 ((takenR s i).2))]) ∧ Ext w w' := by
 refine CW.enter Tryz.func95 rfl Tryz.ntmps95 (Nat.le_of_ble_eq_true rfl) ?_
 have := len_nonneg s
 have hr := rune_bd s i
 have hr2 := rune_le s i h1
 have hS : St w (fun _ _ => none) w (fun _ _ => none) [] := St.start ⟨fun _ _ _ h => by cases h⟩
 refine CW.weaken [0, 1] (L' := [Y 0 (str s), Y 1 (i64 i)]) ?_ rfl
 refine CW.sr ?_
 refine RL.u (.assign .c) rfl (RL.u (.assign .c) rfl ?_)
 refine RL.nil (CW.at [Y 0 (str s), Y 1 (i64 i)] rfl ?_)
 refine CW.seq ?_
 refine CW.sr ?_
 refine RL.m rfl rfl (RL.m rfl rfl (RL.u (.idxS (.t rfl) (.t rfl) Tryz.underlying9 (fun _ => by omega)) rfl (RL.u (.eql (.t rfl) .c) rfl ?_)))
 refine RL.nil (CW.at [Y 0 (str s), Y 1 (i64 i), Y 10 (.bool ((byteAt (s) (i)) == (92)))] rfl ?_)
 refine CW.cond rfl (fun hb1 => ?_) (fun hb1 => ?_)
 ·try simp only [zb] at hb1
  refine CW.sr ?_
  refine RL.m rfl rfl (RL.m rfl rfl ?_)
  refine RL.callE hS .none Tryz.call131 (.cons (.t rfl) (.cons (.t rfl) .nil)) (fun _ => (escape3_c (s) (i) _ (by omega) (by omega) (by omega))) rfl (fun w1 hS2 => ?_)
  refine RL.u (.ex (.t rfl) rfl) rfl (RL.u (.ex (.t rfl) rfl) rfl (RL.a rfl rfl (RL.a rfl rfl ?_)))
  refine RL.nil (CW.at [Y 4 (str ((escS (escP (from' (s) (i)))).1)), Y 5 (i64 ((escS (escP (from' (s) (i)))).2))] rfl ?_)
  refine CW.ret (ret2 (P := Tryz.prog) (fn := Tryz.f95) (R := fun e w' => e = .returned (.tuple #[(str ((takenR s i).1)), (i64 ((takenR s i).2))]) ∧ Ext w w') rfl rfl rfl ?_)
  have hq : takenR s i = escS (escP (from' s i)) := by unfold takenR; rw [if_pos hb1]
  rw [hq]; exact ⟨rfl, hS2.low⟩
 ·try simp only [zb] at hb1
  refine CW.skip (CW.at [Y 0 (str s), Y 1 (i64 i)] rfl ?_)
  refine CW.sr ?_
  refine RL.m rfl rfl (RL.m rfl rfl ?_)
  refine RL.callS .none Tryz.call70 (.cons (.t rfl) (.cons (.t rfl) .nil)) (fun _ => (rune_c (s) (i) _ (by omega) (by omega) (by omega))) rfl ?_
  refine RL.a rfl rfl ?_
  refine RL.nil (CW.at [Y 0 (str s), Y 1 (i64 i), Y 6 (i64 (rune (s) (i)))] rfl ?_)
  refine CW.sr ?_
  refine RL.m rfl rfl (RL.m rfl rfl (RL.m rfl rfl (RL.m rfl rfl (RL.u (.add (.t rfl) (.t rfl) (fun _ => by omega)) rfl (RL.u (.slS (.t rfl) (.t rfl) (.t rfl) Tryz.underlying9 (fun _ => by omega)) rfl ?_)))))
  refine RL.m rfl rfl (RL.a rfl rfl (RL.a rfl rfl ?_))
  refine RL.nil (CW.at [Y 4 (str (Eng.sub (s) (i) ((i) + (rune (s) (i))))), Y 5 (i64 (rune (s) (i)))] rfl ?_)
  refine CW.ret (ret2 (P := Tryz.prog) (fn := Tryz.f95) (R := fun e w' => e = .returned (.tuple #[(str ((takenR s i).1)), (i64 ((takenR s i).2))]) ∧ Ext w w') rfl rfl rfl ?_)
  have hq : takenR s i = (Eng.sub s i (i + rune s i), rune s i) := by unfold takenR; rw [if_neg hb1]
  rw [hq]; exact ⟨rfl, hS.low⟩

/- loupe/louperef03.Unquote -/
set_option maxRecDepth 100000 in
theorem unquote3_c (s : Str) (w : World) (hb : len s ≤ 1099511627776) :
  Calls Tryz.prog 68 [(str s)].toArray w fun e w' => e = .returned (.tuple #[(str ((unqP s).1)), (i64 ((unqP s).2.1)), (i64 ((unqP s).2.2))]) ∧ Ext w w' := by
 refine CW.enter Tryz.func68 rfl Tryz.ntmps68 (Nat.le_of_ble_eq_true rfl) ?_
 have := len_nonneg s
 have hl0 := @len_pos _ s
 have hS : St w (fun _ _ => none) w (fun _ _ => none) [] := St.start ⟨fun _ _ _ h => by cases h⟩
 refine CW.weaken [0] (L' := [Y 0 (str s)]) ?_ rfl
 refine CW.sr ?_
 refine RL.u (.assign .c) rfl (RL.u (.assign .c) rfl (RL.u (.assign .c) rfl ?_))
 refine RL.nil (CW.at [Y 0 (str s)] rfl ?_)
 refine CW.seq ?_
 refine CW.sr ?_
 refine RL.m rfl rfl (RL.u (.seql (.t rfl) .c) rfl (RL.m rfl rfl (RL.v (.neg rfl rfl) (.move (.t rfl)) rfl (RL.v (.neg rfl rfl) (.idxS (.g rfl (fun h => h)) .c Tryz.underlying9 (fun hW => by simp only [zb] at hW; first | omega | (have := hl0 (by simpa using hW); omega))) rfl (RL.v (.neg rfl rfl) (.neq (.g rfl (fun h => h)) .c) rfl ?_)))))
 refine RL.u (.or (.t rfl) (.g rfl (fun h => h))) rfl ?_
 refine RL.nil (CW.at [Y 0 (str s), Y 15 (.bool (((s) == ([])) || ((byteAt (s) (0)) != (34))))] rfl ?_)
 refine CW.cond rfl (fun hb1 => ?_) (fun hb1 => ?_)
 ·try simp only [zb] at hb1
  refine CW.sr ?_
  refine RL.u (.assign .c) rfl (RL.u (.assign .c) rfl (RL.u (.assign .c) rfl ?_))
  refine RL.nil (CW.at [Y 2 (str []), Y 3 (i64 0), Y 4 (i64 1)] rfl ?_)
  refine CW.ret (ret3 (P := Tryz.prog) (fn := Tryz.f68) (R := fun e w' => e = .returned (.tuple #[(str ((unqP s).1)), (i64 ((unqP s).2.1)), (i64 ((unqP s).2.2))]) ∧ Ext w w') rfl rfl rfl rfl ?_)
  have hq : unqP s = ([], 0, 1) := by unfold unqP; rw [if_neg (by rw [pre_one]; rintro ⟨h1, h2⟩; rcases hb1 with h | h; exact h1 h; exact h h2)]
  rw [hq]; exact ⟨rfl, hS.low⟩
 ·try simp only [zb] at hb1
  refine CW.skip (CW.at [Y 0 (str s)] rfl ?_)
  refine CW.sr ?_
  refine RL.u (.assign .c) rfl ?_
  refine RL.nil (CW.at [Y 0 (str s), Y 5 (str [])] rfl ?_)
  refine CW.sr ?_
  refine RL.u (.assign .c) rfl ?_
  refine RL.nil (CW.at [Y 0 (str s), Y 5 (str []), Y 6 (i64 1)] rfl ?_)
  refine CW.seq ?_
  refine CW.block ?_
  refine CW.loop (σ := Nat × Int × Str) (fun (f, i, o) => [Y 0 (str s), Y 5 (str o), Y 6 (i64 i)]) (fun (f, i, o) wl => St w (fun _ _ => none) wl (fun _ _ => none) [] ∧ 1 ≤ i ∧ i ≤ len s ∧ UnqInv f s i o ∧ (len s - i).toNat ≤ f ∧ len o ≤ 4 * i) (fun (f, i, o) => (len s - i).toNat) ((s.length, 1, [])) [0, 5, 6] rfl ?_ ?_
  ·refine ⟨hS, ?_⟩; exact ⟨Int.le_refl _, by have := hl0 (by simp_all); omega, ⟨[], rfl, by unfold unqP; rw [if_pos (pre_one.2 (by simp_all))]⟩, by unfold len; omega, by decide⟩
  ·rintro ⟨f, i, o⟩ wl ⟨hS1, h0, h1, hU, hf, hlen⟩
   have htb := fun h => takenR_bd (s := s) (i := i) (by omega) h
   have hlo := len_nonneg o
   have hlt2 := len_nonneg (takenR s i).1
   refine CW.seq ?_
   refine CW.sr ?_
   refine RL.m rfl rfl (RL.m rfl rfl (RL.u (.lenS (.t rfl) Tryz.underlying9) rfl (RL.u (.lss (.t rfl) (.t rfl)) rfl ?_)))
   refine RL.nil (CW.at [Y 0 (str s), Y 5 (str o), Y 6 (i64 i), Y 19 (.bool (decide ((i) < (len (s)))))] rfl ?_)
   refine CW.cond rfl (fun hb2 => ?_) (fun hb2 => ?_)
   ·try simp only [zb] at hb2
    refine CW.skip (CW.at [Y 0 (str s), Y 5 (str o), Y 6 (i64 i)] rfl ?_)
    refine CW.block ?_
    refine CW.seq ?_
    refine CW.sr ?_
    refine RL.m rfl rfl (RL.m rfl rfl (RL.u (.idxS (.t rfl) (.t rfl) Tryz.underlying9 (fun _ => by first | omega | (have := hl0 (by simpa using hW); omega))) rfl (RL.u (.eql (.t rfl) .c) rfl ?_)))
    refine RL.nil (CW.at [Y 0 (str s), Y 5 (str o), Y 6 (i64 i), Y 23 (.bool ((byteAt (s) (i)) == (34)))] rfl ?_)
    refine CW.cond rfl (fun hb3 => ?_) (fun hb3 => ?_)
    ·try simp only [zb] at hb3
     refine CW.sr ?_
     refine RL.m rfl rfl (RL.m rfl rfl (RL.u (.add (.t rfl) .c (fun _ => by first | omega | (have := hl0 (by simpa using hW); omega))) rfl (RL.a rfl rfl (RL.a rfl rfl (RL.u (.assign .c) rfl ?_)))))
     refine RL.nil (CW.at [Y 2 (str o), Y 3 (i64 ((i) + (1))), Y 4 (i64 0)] rfl ?_)
     refine CW.ret (ret3 (P := Tryz.prog) (fn := Tryz.f68) (R := fun e w' => e = .returned (.tuple #[(str ((unqP s).1)), (i64 ((unqP s).2.1)), (i64 ((unqP s).2.2))]) ∧ Ext w w') rfl rfl rfl rfl ?_)
     rw [hU.quote hf (by omega) hb2 hb3]; exact ⟨rfl, hS1.low⟩
    ·try simp only [zb] at hb3
     refine CW.skip (CW.at [Y 0 (str s), Y 5 (str o), Y 6 (i64 i)] rfl ?_)
     refine CW.sr ?_
     refine RL.m rfl rfl (RL.m rfl rfl ?_)
     refine RL.callE hS1 .none Tryz.call95 (.cons (.t rfl) (.cons (.t rfl) .nil)) (fun _ => (taken_c (s) (i) _ (by omega) (by omega) (by omega))) rfl (fun w2 hS3 => ?_)
     refine RL.m rfl rfl (RL.u (.ex (.t rfl) rfl) rfl (RL.u (.ex (.t rfl) rfl) rfl (RL.a rfl rfl (RL.a rfl rfl ?_))))
     refine RL.nil (CW.at [Y 0 (str s), Y 5 (str o), Y 6 (i64 i), Y 7 (str ((takenR (s) (i)).1)), Y 8 (i64 ((takenR (s) (i)).2))] rfl ?_)
     refine CW.seq ?_
     refine CW.sr ?_
     refine RL.m rfl rfl (RL.u (.eql (.t rfl) .c) rfl (RL.m rfl rfl (RL.v (.neg rfl rfl) (.move (.t rfl)) rfl (RL.v (.neg rfl rfl) (.move (.t rfl)) rfl (RL.v (.neg rfl rfl) (.idxS (.g rfl (fun h => h)) (.g rfl (fun h => h)) Tryz.underlying9 (fun hW => by simp only [zb] at hW; first | omega | (have := hl0 (by simpa using hW); omega))) rfl ?_)))))
     refine RL.v (.neg rfl rfl) (.lss (.g rfl (fun h => h)) .c) rfl (RL.u (.or (.t rfl) (.g rfl (fun h => h))) rfl ?_)
     refine RL.nil (CW.at [Y 0 (str s), Y 5 (str o), Y 6 (i64 i), Y 7 (str ((takenR (s) (i)).1)), Y 8 (i64 ((takenR (s) (i)).2)), Y 40 (.bool ((((takenR (s) (i)).2) == (0)) || (decide ((byteAt (s) (i)) < (32)))))] rfl ?_)
     refine CW.cond rfl (fun hb4 => ?_) (fun hb4 => ?_)
     ·try simp only [zb] at hb4
      refine CW.sr ?_
      refine RL.m rfl rfl (RL.u (.assign .c) rfl (RL.a rfl rfl (RL.u (.assign .c) rfl ?_)))
      refine RL.nil (CW.at [Y 2 (str []), Y 3 (i64 i), Y 4 (i64 1)] rfl ?_)
      refine CW.ret (ret3 (P := Tryz.prog) (fn := Tryz.f68) (R := fun e w' => e = .returned (.tuple #[(str ((unqP s).1)), (i64 ((unqP s).2.1)), (i64 ((unqP s).2.2))]) ∧ Ext w w') rfl rfl rfl rfl ?_)
      rw [hU.bad hf (by omega) hb2 hb3 (by simp_all)]; exact ⟨rfl, hS3.low⟩
     ·try simp only [zb] at hb4
      refine CW.skip (CW.at [Y 0 (str s), Y 5 (str o), Y 6 (i64 i), Y 7 (str ((takenR (s) (i)).1)), Y 8 (i64 ((takenR (s) (i)).2))] rfl ?_)
      refine CW.sr ?_
      refine RL.m rfl rfl (RL.m rfl rfl (RL.u (.sadd (.t rfl) (.t rfl) (fun _ => by first | omega | (have := hl0 (by simpa using hW); omega))) rfl (RL.a rfl rfl ?_)))
      refine RL.nil (CW.at [Y 0 (str s), Y 5 (str ((o) ++ ((takenR (s) (i)).1))), Y 6 (i64 i), Y 8 (i64 ((takenR (s) (i)).2))] rfl ?_)
      refine CW.region ?_
      refine RL.m rfl rfl (RL.m rfl rfl (RL.u (.add (.t rfl) (.t rfl) (fun _ => by first | omega | (have := hl0 (by simpa using hW); omega))) rfl (RL.a rfl rfl ?_)))
      refine RL.nil fun a hs => Exists.intro ((f - 1, i + (takenR s i).2, o ++ (takenR s i).1)) ⟨hs.keep [0, 5, 6], ?_, ?_⟩
      ·refine ⟨hS3, ?_⟩
       have hst := hU.step hf (by omega) hb2 hb3 (by simp_all)
       exact ⟨by omega, by omega, hst, by omega, by rw [len_app]; omega⟩
      ·show Int.toNat _ < Int.toNat _; omega
   ·try simp only [zb] at hb2
    refine CW.exit (CW.at [Y 0 (str s)] rfl ?_)
    refine CW.sr ?_
    refine RL.m rfl rfl (RL.u (.lenS (.t rfl) Tryz.underlying9) rfl (RL.u (.assign .c) rfl (RL.a rfl rfl (RL.u (.assign .c) rfl ?_))))
    refine RL.nil (CW.at [Y 2 (str []), Y 3 (i64 (len (s))), Y 4 (i64 1)] rfl ?_)
    refine CW.ret (ret3 (P := Tryz.prog) (fn := Tryz.f68) (R := fun e w' => e = .returned (.tuple #[(str ((unqP s).1)), (i64 ((unqP s).2.1)), (i64 ((unqP s).2.2))]) ∧ Ext w w') rfl rfl rfl rfl ?_)
    rw [hU.end' hb2]; exact ⟨rfl, hS1.low⟩

end Go.Proofs.YthdialbnlnjgpaaGreatDoor
