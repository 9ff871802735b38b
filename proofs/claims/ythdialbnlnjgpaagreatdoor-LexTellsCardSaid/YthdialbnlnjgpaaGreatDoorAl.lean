import Derived.Test.YthdialbnlnjgpaaGreatDoorEngL
import Derived.Laws.BitsLemmas
import Derived.Test.YthdialbnlnjgpaaGreatDoorPure
import Derived.Test.YthdialbnlnjgpaaGreatDoorProg
import Derived.Test.YthdialbnlnjgpaaGreatDoorL5
import Derived.Test.YthdialbnlnjgpaaGreatDoorAlive
set_option linter.unusedVariables false
set_option linter.unusedSimpArgs false
namespace Go.Proofs.YthdialbnlnjgpaaGreatDoor
open Go.Eng

/- loupe/loupelaw08.alive -/
set_option maxRecDepth 100000 in
theorem alive_c  (w : World) (hg : Gl w) :
  Calls Tryz.prog 8 [].toArray w fun e w' => e = .returned (.bool true) ∧ Ext w w' := by
 refine CW.enter Tryz.func8 rfl Tryz.ntmps8 (Nat.le_of_ble_eq_true rfl) ?_
 have hl7 := aliveLen
 have hTk := aliveTk
 have hS : St w (fun _ _ => none) w (fun _ _ => none) [] := St.start ⟨fun _ _ _ h => by cases h⟩
 refine CW.weaken [] (L' := []) ?_ rfl
 refine CW.sr ?_
 refine RL.u (.assign .c) rfl ?_
 refine RL.nil (CW.at [] rfl ?_)
 refine CW.sr ?_
 refine RL.callM hS Tryz.call9 (.cons .c .nil) ((lexP_c (fun _ _ => none) ([46, 97, 124, 46, 91, 48, 93]) _ hS.sat (hg.low hS.low) (by first | assumption | omega | decide))) rfl ?_
 rintro v2 w3 M4 hS5 hle6 ⟨u1, rfl, hsl_u1⟩
 refine RL.m rfl rfl (RL.u (.ex (.t rfl) rfl) rfl (RL.u (.ex (.t rfl) rfl) rfl (RL.u (.ex (.t rfl) rfl) rfl (RL.a rfl rfl (RL.a rfl rfl ?_)))))
 refine RL.a rfl rfl ?_
 refine RL.nil (CW.at [Y 1 (u1), Y 2 (i64 ((lexP ([46, 97, 124, 46, 91, 48, 93])).2.1)), Y 3 (i64 ((lexP ([46, 97, 124, 46, 91, 48, 93])).2.2))] rfl ?_)
 refine CW.sr ?_
 refine RL.callM hS5 Tryz.call9 (.cons .c .nil) ((lexP_c M4 ([46, 32, 36]) _ hS5.sat (hg.low hS5.low) (by first | assumption | omega | decide))) rfl ?_
 rintro v9 w10 M11 hS12 hle13 ⟨u8, rfl, hsl_u8⟩
 replace hsl_u1 := hsl_u1.mono hle13
 refine RL.m rfl rfl (RL.u (.ex (.t rfl) rfl) rfl (RL.u (.ex (.t rfl) rfl) rfl (RL.u (.ex (.t rfl) rfl) rfl (RL.a rfl rfl (RL.a rfl rfl ?_)))))
 refine RL.a rfl rfl ?_
 refine RL.nil (CW.at [Y 1 (u1), Y 2 (i64 ((lexP ([46, 97, 124, 46, 91, 48, 93])).2.1)), Y 3 (i64 ((lexP ([46, 97, 124, 46, 91, 48, 93])).2.2)), Y 5 (i64 ((lexP ([46, 32, 36])).2.1)), Y 6 (i64 ((lexP ([46, 32, 36])).2.2))] rfl ?_)
 refine CW.sr ?_
 refine RL.m rfl rfl (RL.u (.eql (.t rfl) .c) rfl (RL.m rfl rfl (RL.v (.pos rfl rfl) (.move (.t rfl)) rfl (RL.v (.pos rfl rfl) (.eql (.g rfl (fun h => h)) .c) rfl (RL.u (.and (.t rfl) (.g rfl (fun h => h))) rfl ?_)))))
 refine RL.m rfl rfl (RL.v (.pos rfl rfl) (.move (.t rfl)) rfl (RL.v (.pos rfl rfl) (.lenT hsl_u1 (.g rfl (fun h => h)) ⟨_, Tryz.underlying23⟩) rfl (RL.v (.pos rfl rfl) (.eql (.g rfl (fun h => h)) .c) rfl (RL.u (.and (.t rfl) (.g rfl (fun h => h))) rfl (RL.m rfl rfl ?_)))))
 refine RL.v (.pos rfl rfl) (.move (.t rfl)) rfl (RL.v (.pos rfl rfl) (.idxT hsl_u1 (.g rfl (fun h => h)) .c Tryz.underlying23 Tryz.sizeOf33 (fun hW => by simp only [zb] at hW; omega)) rfl (RL.v (.pos rfl rfl) (.fldA (q := ⟨sb (u1), so (u1) + (0 : Int).toNat * 9, none⟩) (.g rfl (fun h => h)) (fun w => by kernel_rfl)) rfl (RL.v (.pos rfl rfl) (.loadE1 (f := Tk.cells) (i := 0) (j := 0) (u := (i64 ((at' ((lexP ([46, 97, 124, 46, 91, 48, 93])).1) (0)).kind))) hS12 extEq hsl_u1 Tk.cells_len (.g rfl (fun h => h)) Tryz.isAgg3 (fun hW => by simp only [zb] at hW; omega) rfl rfl) rfl (RL.v (.pos rfl rfl) (.eql (.g rfl (fun h => h)) .c) rfl (RL.u (.and (.t rfl) (.g rfl (fun h => h))) rfl ?_)))))
 refine RL.m rfl rfl (RL.v (.pos rfl rfl) (.move (.t rfl)) rfl (RL.v (.pos rfl rfl) (.idxT hsl_u1 (.g rfl (fun h => h)) .c Tryz.underlying23 Tryz.sizeOf33 (fun hW => by simp only [zb] at hW; omega)) rfl (RL.v (.pos rfl rfl) (.fldA (q := ⟨sb (u1), so (u1) + (0 : Int).toNat * 9 + 1, none⟩) (.g rfl (fun h => h)) (fun w => by kernel_rfl)) rfl (RL.v (.pos rfl rfl) (.loadE1 (f := Tk.cells) (i := 0) (j := 1) (u := (str ((at' ((lexP ([46, 97, 124, 46, 91, 48, 93])).1) (0)).s))) hS12 extEq hsl_u1 Tk.cells_len (.g rfl (fun h => h)) Tryz.isAgg9 (fun hW => by simp only [zb] at hW; omega) rfl rfl) rfl (RL.v (.pos rfl rfl) (.seql (.g rfl (fun h => h)) .c) rfl ?_)))))
 refine RL.u (.and (.t rfl) (.g rfl (fun h => h))) rfl (RL.m rfl rfl (RL.v (.pos rfl rfl) (.move (.t rfl)) rfl (RL.v (.pos rfl rfl) (.idxT hsl_u1 (.g rfl (fun h => h)) .c Tryz.underlying23 Tryz.sizeOf33 (fun hW => by simp only [zb] at hW; omega)) rfl (RL.v (.pos rfl rfl) (.fldA (q := ⟨sb (u1), so (u1) + (4 : Int).toNat * 9, none⟩) (.g rfl (fun h => h)) (fun w => by kernel_rfl)) rfl (RL.v (.pos rfl rfl) (.loadE1 (f := Tk.cells) (i := 4) (j := 0) (u := (i64 ((at' ((lexP ([46, 97, 124, 46, 91, 48, 93])).1) (4)).kind))) hS12 extEq hsl_u1 Tk.cells_len (.g rfl (fun h => h)) Tryz.isAgg3 (fun hW => by simp only [zb] at hW; omega) rfl rfl) rfl ?_)))))
 refine RL.v (.pos rfl rfl) (.eql (.g rfl (fun h => h)) .c) rfl (RL.u (.and (.t rfl) (.g rfl (fun h => h))) rfl (RL.m rfl rfl (RL.v (.pos rfl rfl) (.move (.t rfl)) rfl (RL.v (.pos rfl rfl) (.idxT hsl_u1 (.g rfl (fun h => h)) .c Tryz.underlying23 Tryz.sizeOf33 (fun hW => by simp only [zb] at hW; omega)) rfl (RL.v (.pos rfl rfl) (.fldA (q := ⟨sb (u1), so (u1) + (6 : Int).toNat * 9 + 8, none⟩) (.g rfl (fun h => h)) (fun w => by kernel_rfl)) rfl ?_)))))
 refine RL.v (.pos rfl rfl) (.loadE1 (f := Tk.cells) (i := 6) (j := 8) (u := (i64 ((at' ((lexP ([46, 97, 124, 46, 91, 48, 93])).1) (6)).pos))) hS12 extEq hsl_u1 Tk.cells_len (.g rfl (fun h => h)) Tryz.isAgg3 (fun hW => by simp only [zb] at hW; omega) rfl rfl) rfl (RL.v (.pos rfl rfl) (.eql (.g rfl (fun h => h)) .c) rfl (RL.u (.and (.t rfl) (.g rfl (fun h => h))) rfl (RL.m rfl rfl (RL.v (.pos rfl rfl) (.move (.t rfl)) rfl (RL.v (.pos rfl rfl) (.eql (.g rfl (fun h => h)) .c) rfl ?_)))))
 refine RL.u (.and (.t rfl) (.g rfl (fun h => h))) rfl (RL.m rfl rfl (RL.v (.pos rfl rfl) (.move (.t rfl)) rfl (RL.v (.pos rfl rfl) (.eql (.g rfl (fun h => h)) .c) rfl (RL.u (.and (.t rfl) (.g rfl (fun h => h))) rfl (RL.m rfl rfl ?_)))))
 refine RL.v (.pos rfl rfl) (.move (.t rfl)) rfl ?_
 refine RL.callE hS12 (.pos rfl rfl) Tryz.call13 (.cons (.g rfl (fun h => h)) .nil) (fun hW => by simp only [zb] at hW; exact (textP_c M11 ((lexP ([46, 97, 124, 46, 91, 48, 93])).1) (u1) _ hS12.sat hsl_u1 (hg.low hS12.low) (by assumption) (by first | assumption | omega))) rfl (fun w15 hS16 => ?_)
 refine RL.v (.pos rfl rfl) (.seql (.g rfl (fun h => h)) .c) rfl (RL.u (.and (.t rfl) (.g rfl (fun h => h))) rfl (RL.a rfl rfl ?_))
 refine RL.nil (CW.at [Y 0 (.bool ((((((((((((lexP ([46, 97, 124, 46, 91, 48, 93])).2.2) == (0)) && (((lexP ([46, 97, 124, 46, 91, 48, 93])).2.1) == (0))) && ((len ((lexP ([46, 97, 124, 46, 91, 48, 93])).1)) == (7))) && (((at' ((lexP ([46, 97, 124, 46, 91, 48, 93])).1) (0)).kind) == (3))) && (((at' ((lexP ([46, 97, 124, 46, 91, 48, 93])).1) (0)).s) == ([97]))) && (((at' ((lexP ([46, 97, 124, 46, 91, 48, 93])).1) (4)).kind) == (5))) && (((at' ((lexP ([46, 97, 124, 46, 91, 48, 93])).1) (6)).pos) == (7))) && (((lexP ([46, 32, 36])).2.2) == (1))) && (((lexP ([46, 32, 36])).2.1) == (2))) && ((textP ((lexP ([46, 97, 124, 46, 91, 48, 93])).1)) == ([46, 97, 32, 124, 32, 46, 32, 91, 32, 48, 32, 93]))))] rfl ?_)
 refine CW.ret (ret1 (P := Tryz.prog) (fn := Tryz.f8) (R := fun e w' => e = .returned (.bool true) ∧ Ext w w') rfl rfl ?_)
 exact ⟨congrArg (fun b => Ending.returned (.bool b)) (by decide +kernel), hS16.low⟩

end Go.Proofs.YthdialbnlnjgpaaGreatDoor
