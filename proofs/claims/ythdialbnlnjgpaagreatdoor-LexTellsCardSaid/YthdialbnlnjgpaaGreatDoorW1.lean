import Derived.Test.YthdialbnlnjgpaaGreatDoorEngL
import Derived.Laws.BitsLemmas
import Derived.Test.YthdialbnlnjgpaaGreatDoorPure
import Derived.Test.YthdialbnlnjgpaaGreatDoorProg
import Derived.Test.YthdialbnlnjgpaaGreatDoorAl
import Derived.Test.YthdialbnlnjgpaaGreatDoorR8
import Derived.Test.YthdialbnlnjgpaaGreatDoorR2
set_option linter.unusedVariables false
set_option linter.unusedSimpArgs false
namespace Go.Proofs.YthdialbnlnjgpaaGreatDoor
open Go.Eng

/- loupe/loupelaw08.LexTells -/
set_option maxRecDepth 100000 in
theorem lexTells_c (s : Str) (w : World) (hg : Gl w) :
  Calls Tryz.prog 3 [(str s)].toArray w fun e w' => e = .returned (.bool true) ∧ Ext w w' := by
 refine CW.enter Tryz.func3 rfl Tryz.ntmps3 (Nat.le_of_ble_eq_true rfl) ?_
 have := len_nonneg s
 have hS : St w (fun _ _ => none) w (fun _ _ => none) [] := St.start ⟨fun _ _ _ h => by cases h⟩
 refine CW.weaken [0] (L' := [Y 0 (str s)]) ?_ rfl
 refine CW.sr ?_
 refine RL.u (.assign .c) rfl ?_
 refine RL.nil (CW.at [Y 0 (str s)] rfl ?_)
 refine CW.seq ?_
 refine CW.sr ?_
 refine RL.m rfl rfl (RL.u (.lenS (.t rfl) Tryz.underlying9) rfl (RL.u (.gtr (.t rfl) .c) rfl ?_))
 refine RL.nil (CW.at [Y 0 (str s), Y 11 (.bool (decide ((400) < (len (s)))))] rfl ?_)
 refine CW.cond rfl (fun hb1 => ?_) (fun hb1 => ?_)
 ·try simp only [zb] at hb1
  refine CW.sr ?_
  refine RL.callE hS .none Tryz.call8 .nil (fun _ => (alive_c _ (hg.low hS.low))) rfl (fun w1 hS2 => ?_)
  refine RL.a rfl rfl ?_
  refine RL.nil (CW.at [Y 2 (.bool true)] rfl ?_)
  refine CW.ret (ret1 (P := Tryz.prog) (fn := Tryz.f3) (R := fun e w' => e = .returned (.bool true) ∧ Ext w w') rfl rfl ?_)
  exact ⟨rfl, hS2.low⟩
 ·try simp only [zb] at hb1
  refine CW.skip (CW.at [Y 0 (str s)] rfl ?_)
  refine CW.sr ?_
  refine RL.m rfl rfl ?_
  refine RL.callM hS Tryz.call9 (.cons (.t rfl) .nil) ((lexP_c (fun _ _ => none) (s) _ hS.sat (hg.low hS.low) (by first | assumption | omega | decide))) rfl ?_
  rintro v4 w5 M6 hS7 hle8 ⟨u3, rfl, hsl_u3⟩
  refine RL.m rfl rfl (RL.u (.ex (.t rfl) rfl) rfl (RL.u (.ex (.t rfl) rfl) rfl (RL.u (.ex (.t rfl) rfl) rfl (RL.a rfl rfl (RL.a rfl rfl ?_)))))
  refine RL.a rfl rfl ?_
  refine RL.nil (CW.at [Y 0 (str s), Y 3 (u3), Y 4 (i64 ((lexP (s)).2.1)), Y 5 (i64 ((lexP (s)).2.2))] rfl ?_)
  refine CW.sr ?_
  refine RL.m rfl rfl ?_
  refine RL.callM hS7 Tryz.call10 (.cons (.t rfl) .nil) ((lexR_c M6 (s) _ hS7.sat (by first | assumption | omega))) rfl ?_
  rintro v11 w12 M13 hS14 hle15 ⟨u10, rfl, hsl_u10⟩
  replace hsl_u3 := hsl_u3.mono hle15
  refine RL.m rfl rfl (RL.u (.ex (.t rfl) rfl) rfl (RL.u (.ex (.t rfl) rfl) rfl (RL.u (.ex (.t rfl) rfl) rfl (RL.a rfl rfl (RL.a rfl rfl ?_)))))
  refine RL.a rfl rfl ?_
  refine RL.nil (CW.at [Y 3 (u3), Y 4 (i64 ((lexP (s)).2.1)), Y 5 (i64 ((lexP (s)).2.2)), Y 6 (u10), Y 7 (i64 ((lexP (s)).2.1)), Y 8 (i64 ((lexP (s)).2.2))] rfl ?_)
  refine CW.sr ?_
  refine RL.callE hS14 .none Tryz.call8 .nil (fun _ => (alive_c _ (hg.low hS14.low))) rfl (fun w17 hS18 => ?_)
  refine RL.m rfl rfl (RL.v (.pos rfl rfl) (.move (.t rfl)) rfl (RL.v (.pos rfl rfl) (.move (.t rfl)) rfl ?_))
  refine RL.callE hS18 (.pos rfl rfl) Tryz.call11 (.cons (.g rfl (fun h => h)) (.cons (.g rfl (fun h => h)) (.cons .c .nil))) (fun hW => by simp only [zb] at hW; exact (same8_c M13 ((lexP (s)).1) ((lexP (s)).1) (true) (u3) (u10) _ hS18.sat hsl_u3 hsl_u10)) rfl (fun w19 hS20 => ?_)
  refine RL.u (.and (.t rfl) (.g rfl (fun h => h))) rfl (RL.m rfl rfl (RL.v (.pos rfl rfl) (.move (.t rfl)) rfl (RL.v (.pos rfl rfl) (.move (.t rfl)) rfl (RL.v (.pos rfl rfl) (.eql (.g rfl (fun h => h)) (.g rfl (fun h => h))) rfl (RL.u (.and (.t rfl) (.g rfl (fun h => h))) rfl ?_)))))
  refine RL.m rfl rfl (RL.v (.pos rfl rfl) (.move (.t rfl)) rfl (RL.v (.pos rfl rfl) (.move (.t rfl)) rfl (RL.v (.pos rfl rfl) (.eql (.g rfl (fun h => h)) (.g rfl (fun h => h))) rfl (RL.u (.and (.t rfl) (.g rfl (fun h => h))) rfl (RL.a rfl rfl ?_)))))
  refine RL.nil (CW.at [Y 2 (.bool ((((true) && (sameTk ((lexP (s)).1) ((lexP (s)).1) (true))) && (((lexP (s)).2.1) == ((lexP (s)).2.1))) && (((lexP (s)).2.2) == ((lexP (s)).2.2))))] rfl ?_)
  refine CW.ret (ret1 (P := Tryz.prog) (fn := Tryz.f3) (R := fun e w' => e = .returned (.bool true) ∧ Ext w w') rfl rfl ?_)
  exact ⟨by simp [sameTk_self], hS20.low⟩

end Go.Proofs.YthdialbnlnjgpaaGreatDoor
