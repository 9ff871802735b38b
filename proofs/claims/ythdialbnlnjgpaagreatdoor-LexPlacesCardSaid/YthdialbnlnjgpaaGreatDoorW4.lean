import Derived.Test.YthdialbnlnjgpaaGreatDoorEngL
import Derived.Laws.BitsLemmas
import Derived.Test.YthdialbnlnjgpaaGreatDoorPure
import Derived.Test.YthdialbnlnjgpaaGreatDoorProg
import Derived.Test.YthdialbnlnjgpaaGreatDoorAl
import Derived.Test.YthdialbnlnjgpaaGreatDoorR2
import Derived.Test.YthdialbnlnjgpaaGreatDoorPlaces
import Derived.Test.YthdialbnlnjgpaaGreatDoorEngM
set_option linter.unusedVariables false
set_option linter.unusedSimpArgs false
namespace Go.Proofs.YthdialbnlnjgpaaGreatDoor
open Go.Eng

/- loupe/loupelaw08.LexPlaces -/
set_option maxRecDepth 100000 in
theorem lexPlaces_c (s : Str) (w : World) (hg : Gl w) :
  Calls Tryz.prog 6 [(str s)].toArray w fun e w' => e = .returned (.bool true) ∧ Ext w w' := by
 refine CW.enter Tryz.func6 rfl Tryz.ntmps6 (Nat.le_of_ble_eq_true rfl) ?_
 have := len_nonneg s
 have hlz := lexP_size s
 have hS : St w (fun _ _ => none) w (fun _ _ => none) [] := St.start ⟨fun _ _ _ h => by cases h⟩
 refine CW.weaken [0] (L' := [Y 0 (str s)]) ?_ rfl
 refine CW.sr ?_
 refine RL.u (.assign .c) rfl ?_
 refine RL.nil (CW.at [Y 0 (str s)] rfl ?_)
 refine CW.seq ?_
 refine CW.sr ?_
 refine RL.m rfl rfl (RL.u (.lenS (.t rfl) Tryz.underlying9) rfl (RL.u (.gtr (.t rfl) .c) rfl ?_))
 refine RL.nil (CW.at [Y 0 (str s), Y 14 (.bool (decide ((400) < (len (s)))))] rfl ?_)
 refine CW.cond rfl (fun hb1 => ?_) (fun hb1 => ?_)
 ·try simp only [zb] at hb1
  refine CW.sr ?_
  refine RL.callE hS .none Tryz.call8 .nil (fun _ => (alive_c _ (hg.low hS.low))) rfl (fun w1 hS2 => ?_)
  refine RL.a rfl rfl ?_
  refine RL.nil (CW.at [Y 2 (.bool true)] rfl ?_)
  refine CW.ret (ret1 (P := Tryz.prog) (fn := Tryz.f6) (R := fun e w' => e = .returned (.bool true) ∧ Ext w w') rfl rfl ?_)
  exact ⟨rfl, hS2.low⟩
 ·try simp only [zb] at hb1
  have hsl : len s ≤ 1099511627776 := by omega
  refine CW.skip (CW.at [Y 0 (str s)] rfl ?_)
  refine CW.sr ?_
  refine RL.m rfl rfl ?_
  refine RL.callM hS Tryz.call9 (.cons (.t rfl) .nil) ((lexP_c (fun _ _ => none) (s) _ hS.sat (hg.low hS.low) (by first | assumption | omega | decide))) rfl ?_
  rintro v4 w5 M6 hS7 hle8 ⟨u3, rfl, hsl_u3⟩
  refine RL.m rfl rfl (RL.u (.ex (.t rfl) rfl) rfl (RL.u (.ex (.t rfl) rfl) rfl (RL.u (.ex (.t rfl) rfl) rfl (RL.a rfl rfl (RL.a rfl rfl ?_)))))
  refine RL.a rfl rfl ?_
  refine RL.nil (CW.at [Y 0 (str s), Y 3 (u3), Y 5 (i64 ((lexP (s)).2.2))] rfl ?_)
  refine CW.seq ?_
  refine CW.sr ?_
  refine RL.m rfl rfl (RL.u (.neq (.t rfl) .c) rfl ?_)
  refine RL.nil (CW.at [Y 0 (str s), Y 3 (u3), Y 23 (.bool (((lexP (s)).2.2) != (0)))] rfl ?_)
  refine CW.cond rfl (fun hb2 => ?_) (fun hb2 => ?_)
  ·try simp only [zb] at hb2
   have hpb := places_bad hb2
   refine CW.sr ?_
   refine RL.callE hS7 .none Tryz.call8 .nil (fun _ => (alive_c _ (hg.low hS7.low))) rfl (fun w10 hS11 => ?_)
   refine RL.m rfl rfl (RL.v (.pos rfl rfl) (.move (.t rfl)) rfl (RL.v (.pos rfl rfl) (.lenT hsl_u3 (.g rfl (fun h => h)) ⟨_, Tryz.underlying23⟩) rfl (RL.v (.pos rfl rfl) (.eql (.g rfl (fun h => h)) .c) rfl (RL.u (.and (.t rfl) (.g rfl (fun h => h))) rfl (RL.a rfl rfl ?_)))))
   refine RL.nil (CW.at [Y 2 (.bool ((true) && ((len ((lexP (s)).1)) == (0))))] rfl ?_)
   refine CW.ret (ret1 (P := Tryz.prog) (fn := Tryz.f6) (R := fun e w' => e = .returned (.bool true) ∧ Ext w w') rfl rfl ?_)
   exact ⟨by rw [hpb]; rfl, hS11.low⟩
  ·try simp only [zb] at hb2
   have hP := places hb2
   have hP1 := hP.1
   refine CW.skip (CW.at [Y 0 (str s), Y 3 (u3)] rfl ?_)
   refine CW.seq ?_
   refine CW.sr ?_
   refine RL.m rfl rfl (RL.u (.lenT hsl_u3 (.t rfl) ⟨_, Tryz.underlying23⟩) rfl (RL.u (.eql (.t rfl) .c) rfl (RL.m rfl rfl (RL.v (.neg rfl rfl) (.move (.t rfl)) rfl (RL.v (.neg rfl rfl) (.move (.t rfl)) rfl ?_)))))
   refine RL.v (.neg rfl rfl) (.lenT hsl_u3 (.g rfl (fun h => h)) ⟨_, Tryz.underlying23⟩) rfl (RL.v (.neg rfl rfl) (.sub (.g rfl (fun h => h)) .c (fun hW => by simp only [zb] at hW; omega)) rfl (RL.v (.neg rfl rfl) (.idxT hsl_u3 (.g rfl (fun h => h)) (.g rfl (fun h => h)) Tryz.underlying23 Tryz.sizeOf33 (fun hW => by simp only [zb] at hW; omega)) rfl (RL.v (.neg rfl rfl) (.fldA (q := ⟨sb (u3), so (u3) + ((len ((lexP (s)).1)) - (1) : Int).toNat * 9, none⟩) (.g rfl (fun h => h)) (fun w => by kernel_rfl)) rfl (RL.v (.neg rfl rfl) (.loadE1 (f := Tk.cells) (i := (len ((lexP (s)).1)) - (1)) (j := 0) (u := (i64 ((at' ((lexP (s)).1) ((len ((lexP (s)).1)) - (1))).kind))) hS7 extEq hsl_u3 Tk.cells_len (.g rfl (fun h => h)) Tryz.isAgg3 (fun hW => by simp only [zb] at hW; omega) rfl rfl) rfl (RL.v (.neg rfl rfl) (.neq (.g rfl (fun h => h)) .c) rfl ?_)))))
   refine RL.u (.or (.t rfl) (.g rfl (fun h => h))) rfl (RL.m rfl rfl (RL.v (.neg rfl rfl) (.move (.t rfl)) rfl (RL.v (.neg rfl rfl) (.move (.t rfl)) rfl (RL.v (.neg rfl rfl) (.lenT hsl_u3 (.g rfl (fun h => h)) ⟨_, Tryz.underlying23⟩) rfl (RL.v (.neg rfl rfl) (.sub (.g rfl (fun h => h)) .c (fun hW => by simp only [zb] at hW; omega)) rfl ?_)))))
   refine RL.v (.neg rfl rfl) (.idxT hsl_u3 (.g rfl (fun h => h)) (.g rfl (fun h => h)) Tryz.underlying23 Tryz.sizeOf33 (fun hW => by simp only [zb] at hW; omega)) rfl (RL.v (.neg rfl rfl) (.fldA (q := ⟨sb (u3), so (u3) + ((len ((lexP (s)).1)) - (1) : Int).toNat * 9 + 8, none⟩) (.g rfl (fun h => h)) (fun w => by kernel_rfl)) rfl (RL.v (.neg rfl rfl) (.loadE1 (f := Tk.cells) (i := (len ((lexP (s)).1)) - (1)) (j := 8) (u := (i64 ((at' ((lexP (s)).1) ((len ((lexP (s)).1)) - (1))).pos))) hS7 extEq hsl_u3 Tk.cells_len (.g rfl (fun h => h)) Tryz.isAgg3 (fun hW => by simp only [zb] at hW; omega) rfl rfl) rfl (RL.v (.neg rfl rfl) (.move (.t rfl)) rfl (RL.v (.neg rfl rfl) (.lenS (.g rfl (fun h => h)) Tryz.underlying9) rfl (RL.v (.neg rfl rfl) (.neq (.g rfl (fun h => h)) (.g rfl (fun h => h))) rfl ?_)))))
   refine RL.u (.or (.t rfl) (.g rfl (fun h => h))) rfl ?_
   refine RL.nil (CW.at [Y 0 (str s), Y 3 (u3), Y 54 (.bool ((((len ((lexP (s)).1)) == (0)) || (((at' ((lexP (s)).1) ((len ((lexP (s)).1)) - (1))).kind) != (6))) || (((at' ((lexP (s)).1) ((len ((lexP (s)).1)) - (1))).pos) != (len (s)))))] rfl ?_)
   refine CW.cond rfl (fun hb3 => ?_) (fun hb3 => ?_)
   ·try simp only [zb] at hb3
    exfalso; have := hP.2.1; have := hP.2.2.1; omega
   ·try simp only [zb] at hb3
    refine CW.skip (CW.at [Y 0 (str s), Y 3 (u3)] rfl ?_)
    refine CW.seq ?_
    refine CW.sr ?_
    refine RL.u (.assign .c) rfl ?_
    refine RL.nil (CW.at [Y 0 (str s), Y 3 (u3), Y 6 (i64 0)] rfl ?_)
    refine CW.block ?_
    refine CW.loop (σ := Int × Mem) (fun (k, Ml) => [Y 0 (str s), Y 3 (u3), Y 6 (i64 k)]) (fun (k, Ml) wl => St w (fun _ _ => none) wl Ml [] ∧ Sl Ml 9 ((lexP (s)).1).length (u3) (((lexP (s)).1).flatMap Tk.cells) ∧ 0 ≤ k ∧ k + 1 ≤ len (lexP s).1) (fun (k, Ml) => (len (lexP s).1 - k).toNat) ((0, M6)) [0, 3, 6] rfl ?_ ?_
    ·refine ⟨hS7, hsl_u3, ?_⟩; exact ⟨by omega, by omega⟩
    ·rintro ⟨k, Ml⟩ wl ⟨hS12, hsl_u3, hk0, hk1⟩
     refine CW.seq ?_
     refine CW.sr ?_
     refine RL.m rfl rfl (RL.u (.add (.t rfl) .c (fun _ => by omega)) rfl (RL.m rfl rfl (RL.u (.lenT hsl_u3 (.t rfl) ⟨_, Tryz.underlying23⟩) rfl (RL.u (.lss (.t rfl) (.t rfl)) rfl ?_))))
     refine RL.nil (CW.at [Y 0 (str s), Y 3 (u3), Y 6 (i64 k), Y 59 (.bool (decide (((k) + (1)) < (len ((lexP (s)).1)))))] rfl ?_)
     refine CW.cond rfl (fun hb4 => ?_) (fun hb4 => ?_)
     ·try simp only [zb] at hb4
      have hA := hP.2.2.2 k hk0 hb4
      have hA1 := hA.1
      have hA2 := hA.2.1
      have hA3 := hA.2.2.1
      have hF := alone_facts hA hk0 (by omega)
      have hF2 := hF.2.1
      have hsb := sub_bd s (at' (lexP s).1 k).pos (at' (lexP s).1 (k + 1)).pos
      have hsb2 : len (Eng.sub s (at' (lexP s).1 k).pos (at' (lexP s).1 (k + 1)).pos) ≤ 1099511627776 := by omega
      refine CW.skip (CW.at [Y 0 (str s), Y 3 (u3), Y 6 (i64 k)] rfl ?_)
      refine CW.seq ?_
      refine CW.block ?_
      refine CW.seq ?_
      refine CW.regionD hS12 tryz_mixed (by decide +kernel) ?_
      refine RQ.v .none (.move (.t rfl)) rfl ?_
      refine RQ.v .none (.move (.t rfl)) rfl ?_
      refine RQ.v .none (.idxT hsl_u3 (.t rfl) (.t rfl) Tryz.underlying23 Tryz.sizeOf33 (fun _ => by omega)) rfl ?_
      refine RQ.v .none (.fldA (q := ⟨sb (u3), so (u3) + (k : Int).toNat * 9 + 8, none⟩) (.t rfl) (fun w => by kernel_rfl)) rfl ?_
      refine RQ.v .none (.loadE1 (f := Tk.cells) (i := k) (j := 8) (u := (i64 ((at' ((lexP (s)).1) (k)).pos))) hS12 (fun _ h => h) hsl_u3 Tk.cells_len (.t rfl) Tryz.isAgg3 (fun _ => by omega) rfl rfl) rfl ?_
      refine RQ.v .none (.move (.t rfl)) rfl ?_
      refine RQ.v .none (.move (.t rfl)) rfl ?_
      refine RQ.v .none (.add (.t rfl) .c (fun _ => by omega)) rfl ?_
      refine RQ.v .none (.idxT hsl_u3 (.t rfl) (.t rfl) Tryz.underlying23 Tryz.sizeOf33 (fun _ => by omega)) rfl ?_
      refine RQ.v .none (.fldA (q := ⟨sb (u3), so (u3) + ((k) + (1) : Int).toNat * 9 + 8, none⟩) (.t rfl) (fun w => by kernel_rfl)) rfl ?_
      refine RQ.v .none (.loadE1 (f := Tk.cells) (i := (k) + (1)) (j := 8) (u := (i64 ((at' ((lexP (s)).1) ((k) + (1))).pos))) hS12 (fun _ h => h) hsl_u3 Tk.cells_len (.t rfl) Tryz.isAgg3 (fun _ => by omega) rfl rfl) rfl ?_
      refine RQ.v .none (.assign (.t rfl)) rfl ?_
      refine RQ.v .none (.assign (.t rfl)) rfl ?_
      refine RQ.nil (fun a hs w13 hS14 => CW.at [Y 0 (str s), Y 3 (u3), Y 6 (i64 k), Y 7 (i64 ((at' ((lexP (s)).1) (k)).pos)), Y 8 (i64 ((at' ((lexP (s)).1) ((k) + (1))).pos))] rfl ?_ a hs)
      refine CW.seq ?_
      refine CW.sr ?_
      refine RL.m rfl rfl (RL.u (.lss (.t rfl) .c) rfl (RL.m rfl rfl (RL.v (.neg rfl rfl) (.move (.t rfl)) rfl (RL.v (.neg rfl rfl) (.move (.t rfl)) rfl (RL.v (.neg rfl rfl) (.geq (.g rfl (fun h => h)) (.g rfl (fun h => h))) rfl ?_)))))
      refine RL.u (.or (.t rfl) (.g rfl (fun h => h))) rfl (RL.m rfl rfl (RL.v (.neg rfl rfl) (.move (.t rfl)) rfl (RL.v (.neg rfl rfl) (.move (.t rfl)) rfl (RL.v (.neg rfl rfl) (.lenS (.g rfl (fun h => h)) Tryz.underlying9) rfl (RL.v (.neg rfl rfl) (.gtr (.g rfl (fun h => h)) (.g rfl (fun h => h))) rfl ?_)))))
      refine RL.u (.or (.t rfl) (.g rfl (fun h => h))) rfl ?_
      refine RL.nil (CW.at [Y 0 (str s), Y 3 (u3), Y 6 (i64 k), Y 7 (i64 ((at' ((lexP (s)).1) (k)).pos)), Y 8 (i64 ((at' ((lexP (s)).1) ((k) + (1))).pos)), Y 85 (.bool (((decide (((at' ((lexP (s)).1) (k)).pos) < (0))) || (decide (((at' ((lexP (s)).1) ((k) + (1))).pos) ≤ ((at' ((lexP (s)).1) (k)).pos)))) || (decide ((len (s)) < ((at' ((lexP (s)).1) ((k) + (1))).pos)))))] rfl ?_)
      refine CW.cond rfl (fun hb5 => ?_) (fun hb5 => ?_)
      ·try simp only [zb] at hb5
       exfalso; omega
      ·try simp only [zb] at hb5
       refine CW.skip (CW.at [Y 0 (str s), Y 3 (u3), Y 6 (i64 k), Y 7 (i64 ((at' ((lexP (s)).1) (k)).pos)), Y 8 (i64 ((at' ((lexP (s)).1) ((k) + (1))).pos))] rfl ?_)
       refine CW.sr ?_
       refine RL.m rfl rfl (RL.m rfl rfl (RL.m rfl rfl (RL.u (.slS (.t rfl) (.t rfl) (.t rfl) Tryz.underlying9 (fun _ => by omega)) rfl ?_)))
       refine RL.callM hS14 Tryz.call9 (.cons (.t rfl) .nil) ((lexP_c Ml (Eng.sub (s) ((at' ((lexP (s)).1) (k)).pos) ((at' ((lexP (s)).1) ((k) + (1))).pos)) _ hS14.sat (hg.low hS14.low) (by first | assumption | omega | decide))) rfl ?_
       rintro v16 w17 M18 hS19 hle20 ⟨u15, rfl, hsl_u15⟩
       replace hsl_u3 := hsl_u3.mono hle20
       refine RL.m rfl rfl (RL.u (.ex (.t rfl) rfl) rfl (RL.u (.ex (.t rfl) rfl) rfl (RL.u (.ex (.t rfl) rfl) rfl (RL.a rfl rfl (RL.a rfl rfl ?_)))))
       refine RL.a rfl rfl ?_
       refine RL.nil (CW.at [Y 0 (str s), Y 3 (u3), Y 6 (i64 k), Y 9 (u15), Y 11 (i64 ((lexP (Eng.sub (s) ((at' ((lexP (s)).1) (k)).pos) ((at' ((lexP (s)).1) ((k) + (1))).pos))).2.2))] rfl ?_)
       refine CW.seq ?_
       refine CW.regionD hS19 tryz_mixed (by decide +kernel) ?_
       refine RQ.v .none (.move (.t rfl)) rfl ?_
       refine RQ.v .none (.neq (.t rfl) .c) rfl ?_
       refine RQ.v .none (.move (.t rfl)) rfl ?_
       refine RQ.v (.neg rfl rfl) (.move (.t rfl)) rfl ?_
       refine RQ.v (.neg rfl rfl) (.lenT hsl_u15 (.g rfl (fun h => h)) ⟨_, Tryz.underlying23⟩) rfl ?_
       refine RQ.v (.neg rfl rfl) (.neq (.g rfl (fun h => h)) .c) rfl ?_
       refine RQ.v .none (.or (.t rfl) (.g rfl (fun h => h))) rfl ?_
       refine RQ.v .none (.move (.t rfl)) rfl ?_
       refine RQ.v (.neg rfl rfl) (.move (.t rfl)) rfl ?_
       obtain ⟨vs22, hs23, hrun⟩ := slSl_h (P := Tryz.prog) hsl_u15 Tk.cells_len Tryz.underlying23 Tryz.sizeOf33 (0) (1) (by omega)
       refine RQ.v (.neg rfl rfl) (.slRh (.g rfl (fun h => h)) .c hrun) rfl ?_
       clear hrun
       refine RQ.v (.neg rfl rfl) (.move (.t rfl)) rfl ?_
       refine RQ.v (.neg rfl rfl) (.move (.t rfl)) rfl ?_
       refine RQ.v (.neg rfl rfl) (.move (.t rfl)) rfl ?_
       refine RQ.v (.neg rfl rfl) (.add (.g rfl (fun h => h)) .c (fun hW => by simp only [zb] at hW; omega)) rfl ?_
       obtain ⟨vs24, hs25, hrun⟩ := slSl_b (P := Tryz.prog) hsl_u3 Tk.cells_len Tryz.underlying23 Tryz.sizeOf33 (k) ((k) + (1)) (by omega)
       refine RQ.v (.neg rfl rfl) (.slRb (.g rfl (fun h => h)) (.g rfl (fun h => h)) (.g rfl (fun h => h)) hrun) rfl ?_
       clear hrun
       refine RQ.call (.neg rfl rfl) Tryz.call11 (.cons (.g rfl (fun h => h)) (.cons (.g rfl (fun h => h)) (.cons .c .nil))) (fun hW => by simp only [zb] at hW; exact (fun w2 hw2 => ((same8_c M18 (Eng.sub ((lexP (Eng.sub (s) ((at' ((lexP (s)).1) (k)).pos) ((at' ((lexP (s)).1) ((k) + (1))).pos))).1) (0) (1)) (Eng.sub ((lexP (s)).1) (k) ((k) + (1))) (false) (vs22) (vs24) _ (hS19.sat.ext hw2) hs23 hs25)).mono (fun e w3 h3 => ⟨h3.1, Ext.trans hw2 h3.2⟩))) rfl ?_
       refine RQ.v (.neg rfl rfl) (.not (.g rfl (fun h => h))) rfl ?_
       refine RQ.v .none (.or (.t rfl) (.g rfl (fun h => h))) rfl ?_
       refine RQ.v .none (.move (.t rfl)) rfl ?_
       refine RQ.v (.neg rfl rfl) (.move (.t rfl)) rfl ?_
       refine RQ.v (.neg rfl rfl) (.idxT hsl_u15 (.g rfl (fun h => h)) .c Tryz.underlying23 Tryz.sizeOf33 (fun hW => by simp only [zb] at hW; omega)) rfl ?_
       refine RQ.v (.neg rfl rfl) (.fldA (q := ⟨sb (u15), so (u15) + (0 : Int).toNat * 9 + 8, none⟩) (.g rfl (fun h => h)) (fun w => by kernel_rfl)) rfl ?_
       refine RQ.v (.neg rfl rfl) (.loadE1 (f := Tk.cells) (i := 0) (j := 8) (u := (i64 ((at' ((lexP (Eng.sub (s) ((at' ((lexP (s)).1) (k)).pos) ((at' ((lexP (s)).1) ((k) + (1))).pos))).1) (0)).pos))) hS19 (fun _ h => h) hsl_u15 Tk.cells_len (.g rfl (fun h => h)) Tryz.isAgg3 (fun hW => by simp only [zb] at hW; omega) rfl rfl) rfl ?_
       refine RQ.v (.neg rfl rfl) (.neq (.g rfl (fun h => h)) .c) rfl ?_
       refine RQ.v .none (.or (.t rfl) (.g rfl (fun h => h))) rfl ?_
       refine RQ.nil (fun a hs w26 hS27 => CW.at [Y 0 (str s), Y 3 (u3), Y 6 (i64 k), Y 119 (.bool ((((((lexP (Eng.sub (s) ((at' ((lexP (s)).1) (k)).pos) ((at' ((lexP (s)).1) ((k) + (1))).pos))).2.2) != (0)) || ((len ((lexP (Eng.sub (s) ((at' ((lexP (s)).1) (k)).pos) ((at' ((lexP (s)).1) ((k) + (1))).pos))).1)) != (2))) || (!(sameTk (Eng.sub ((lexP (Eng.sub (s) ((at' ((lexP (s)).1) (k)).pos) ((at' ((lexP (s)).1) ((k) + (1))).pos))).1) (0) (1)) (Eng.sub ((lexP (s)).1) (k) ((k) + (1))) (false)))) || (((at' ((lexP (Eng.sub (s) ((at' ((lexP (s)).1) (k)).pos) ((at' ((lexP (s)).1) ((k) + (1))).pos))).1) (0)).pos) != (0))))] rfl ?_ a hs)
       refine CW.cond rfl (fun hb6 => ?_) (fun hb6 => ?_)
       ·try simp only [zb] at hb6
        exact absurd hb6 (by rw [hF.1, hF.2.1, hF.2.2.1, hF.2.2.2]; simp)
       ·try simp only [zb] at hb6
        refine CW.skip (CW.at [Y 0 (str s), Y 3 (u3), Y 6 (i64 k)] rfl ?_)
        refine CW.region ?_
        refine RL.m rfl rfl (RL.u (.add (.t rfl) .c (fun _ => by omega)) rfl (RL.a rfl rfl ?_))
        refine RL.nil fun a hs => Exists.intro ((k + 1, M18)) ⟨hs.keep [0, 3, 6], ?_, ?_⟩
        ·refine ⟨hS27, hsl_u3, ?_⟩
         exact ⟨by omega, by omega⟩
        ·show Int.toNat _ < Int.toNat _; omega
     ·try simp only [zb] at hb4
      refine CW.exit (CW.at [] rfl ?_)
      refine CW.sr ?_
      refine RL.callE hS12 .none Tryz.call8 .nil (fun _ => (alive_c _ (hg.low hS12.low))) rfl (fun w28 hS29 => ?_)
      refine RL.a rfl rfl ?_
      refine RL.nil (CW.at [Y 2 (.bool true)] rfl ?_)
      refine CW.ret (ret1 (P := Tryz.prog) (fn := Tryz.f6) (R := fun e w' => e = .returned (.bool true) ∧ Ext w w') rfl rfl ?_)
      exact ⟨rfl, hS29.low⟩

end Go.Proofs.YthdialbnlnjgpaaGreatDoor
